/- BerFronts: of a tree's bytes, in any form, every shorter front is refused with its length, anything behind them with theirs. (Lists of at most 1048576 nodes and bytes.) -/
import Derived.Test.YtolhmomnidlmaaaStBerFronts
import Derived.Test.YtolhmomnidlmaaaSl
import Derived.Lib.Hide
namespace Go.Proofs.Ytolhmomnidlmaaa.Pure
open Go.RowKit Go.Proofs.Ytolhmomnidlmaaa.GF Go.Proofs.Ytolhmomnidlmaaa.W Go.Proofs.YtolhmomnidlmaaaW.PrintWords Go.Proofs.YtolhmomnidlmaaaW.PrintLast
set_option linter.unusedVariables false
set_option linter.unusedSimpArgs false

def dnF (x : S49) : NodeT := (x.f0, x.f1, x.f2, x.f3, x.f4)
theorem phi_le (forms : List Int) (i : Nat) (n : Int) : phiF forms i n ≤ 4 := by
  unfold phiF
  split
  · omega
  · unfold wideK
    repeat' split
    all_goals omega
theorem wt_bulk (l : List S49) : wt (l.map dnF) 0 (l.map dnF).length = (l.map StBerFronts.bulk49).sum := by
  unfold wt
  rw [List.take_of_length_le (Nat.le_refl _), List.drop_zero, List.map_map]
  congr 1
  apply List.map_congr_left
  intro x hx
  show x.f4.size + 6 = 6 + x.f4.size
  omega
theorem tree_f {b : ByteArray} {xs : List NodeT} {c q : Int} (h : treeS b = (xs, c, q)) (hs : b.size ≤ 2097152) : ber_Tree.f b = some (xs.map ber_Tree.up, c, q) := by
  unfold ber_Tree.f
  rw [h, if_pos hs]
theorem BerFronts : StBerFronts.Pure := by
  intro l forms cut more hl hb hwf hfl hfw hcw hms
  refine Ev.rounds (g := fun k => rosterlaw02_BerFronts.f k l forms cut more) ?_
  obtain ⟨xs, hxs⟩ : ∃ xs, xs = l.map dnF := ⟨_, rfl⟩
  have hlen : xs.length = l.length := by rw [hxs, List.length_map]
  have hwt : wt xs 0 xs.length ≤ 1048576 := by rw [hxs, wt_bulk]; exact hb
  have h1 : rosterlaw02_sound.f l = some (soundB xs) := by
    unfold rosterlaw02_sound.f
    have e : l.map rosterlaw02_sound.dn = xs := hxs.symm
    rw [e, if_pos (by omega)]
  have h2 : rosterlaw02_small.f l = some true := by
    unfold rosterlaw02_small.f
    have e : l.map rosterlaw02_small.dn = xs := hxs.symm
    rw [e, if_pos ⟨by omega, by omega⟩, decide_eq_true (by omega)]
  cases hsd : soundB xs with
  | false =>
    refine Ev.congr (fun k => by rw [rosterlaw02_BerFronts.f, h1, hsd, Option.bind_some, h2, Option.bind_some, if_neg Bool.false_ne_true]) (Ev.step (f := fun _ => some true) (fun k => by rw [rosterlaw02_BerFronts.j0, if_pos rfl]) (Ev.now _))
  | true =>
    obtain ⟨hS, h0⟩ := sound_snd hsd
    obtain ⟨t1, t2, t3, t4, t5⟩ := spelt_tree forms xs hS h0 (by omega) (phi_le forms)
    obtain ⟨t, ht⟩ : ∃ t, t = treeOf (phiF forms) xs := ⟨_, rfl⟩
    obtain ⟨b, hbb⟩ : ∃ b, b = catS (phiF forms) xs xs.length := ⟨_, rfl⟩
    rw [← ht] at t1 t2 t3 t4 t5
    rw [← hbb] at t3
    have hbl : (b.size : Int) = (encT t).length := by rw [← t3, bytesOf_length]
    have hsp : rosterlaw02_spelt.f l forms = some (b, shB forms xs xs.length) := by
      have e : l.map rosterlaw02_spelt.dn = xs := hxs.symm
      unfold rosterlaw02_spelt.f
      rw [e, if_pos ⟨hsd, by omega, by omega⟩, hbb]
    have hT := tree_f (tree_enc t1 t2 (has_of t3) hbl) (by omega)
    have hlast : Ev (fun k => rosterlaw02_BerFronts.j2 k more b) true := by
      refine Ev.step (f := fun _ => some true) (fun k => ?_) (Ev.now _)
      rw [rosterlaw02_BerFronts.j2]
      by_cases c : more.toList = []
      · rw [if_pos c]
      · have hm0 : 0 < more.size := by
          have := (toList_emp more).2
          by_cases hz : more.size = 0
          · exact absurd (this.2 hz) c
          · omega
        have hby : bytesOf (b ++ more) = encT t ++ bytesOf more := by rw [bytesOf_append, t3]
        have hsz : (b ++ more).size = b.size + more.size := ByteArray.size_append
        have hT2 := tree_f (tree_trail t1 t2 (has_of hby).left (by omega)) (by omega)
        have q1 : b.size + more.size ≤ 9223372036854775807 := by omega
        rw [if_neg c, if_pos q1, hT2, Option.bind_some]
        dsimp only
        rw [if_neg (by simp), if_pos rfl, if_pos hbl.symm]
    refine Ev.congr (f := fun k => rosterlaw02_BerFronts.j0 k l forms cut more (!true)) (fun k => by rw [rosterlaw02_BerFronts.f, h1, hsd, Option.bind_some, h2, Option.bind_some, if_pos rfl]) ?_
    have hj1 : Ev (fun k => rosterlaw02_BerFronts.j1 k cut more b false) true := Ev.step (fun k => by rw [rosterlaw02_BerFronts.j1, if_neg Bool.false_ne_true]) hlast
    by_cases c0 : cut ≥ 0
    · by_cases c1 : cut < (b.size : Int)
      · refine Ev.step (f := fun k => rosterlaw02_BerFronts.j1 k cut more b true) (fun k => ?_) ?_
        · rw [rosterlaw02_BerFronts.j0, if_neg (by simp), hsp, Option.bind_some, hT, Option.bind_some]
          dsimp only
          rw [if_pos rfl, if_pos c0, decide_eq_true c1]
        · refine Ev.step (fun k => ?_) hlast
          have hft := tree_front t1 (has_of t3) hbl cut.toNat (by omega)
          have e1 : ((cut.toNat : Nat) : Int) = cut := by omega
          rw [e1] at hft
          have hx : (b.extract 0 cut.toNat).size ≤ 2097152 := by simp; omega
          have q3 : cut ≤ (b.size : Int) := by omega
          rw [rosterlaw02_BerFronts.j1, if_pos rfl, if_pos c0, if_pos q3, tree_f hft hx, Option.bind_some]
          dsimp only
          rw [if_neg (by simp), if_pos rfl, if_pos rfl]
      · refine Ev.step (f := fun k => rosterlaw02_BerFronts.j1 k cut more b false) (fun k => ?_) hj1
        rw [rosterlaw02_BerFronts.j0, if_neg (by simp), hsp, Option.bind_some, hT, Option.bind_some]
        dsimp only
        rw [if_pos rfl, if_pos c0, decide_eq_false c1]
    · refine Ev.step (f := fun k => rosterlaw02_BerFronts.j1 k cut more b false) (fun k => ?_) hj1
      rw [rosterlaw02_BerFronts.j0, if_neg (by simp), hsp, Option.bind_some, hT, Option.bind_some]
      dsimp only
      rw [if_pos rfl, if_neg c0]
end Go.Proofs.Ytolhmomnidlmaaa.Pure
