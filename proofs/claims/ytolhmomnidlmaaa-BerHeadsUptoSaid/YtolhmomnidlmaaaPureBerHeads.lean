/- BerHeads: Head tells the outermost element of a tree's bytes; of a front shorter than its header it wants more. (Lists of at most 1048576 nodes and bytes.) -/
import Derived.Test.YtolhmomnidlmaaaStBerHeads
import Derived.Test.YtolhmomnidlmaaaSt3
import Derived.Lib.Hide
namespace Go.Proofs.Ytolhmomnidlmaaa.Pure
open Go.RowKit Go.Proofs.Ytolhmomnidlmaaa.GF Go.Proofs.Ytolhmomnidlmaaa.W Go.Proofs.YtolhmomnidlmaaaW.PrintWords Go.Proofs.YtolhmomnidlmaaaW.PrintLast
set_option linter.unusedVariables false
set_option linter.unusedSimpArgs false

def dnF (x : S49) : NodeT := (x.f0, x.f1, x.f2, x.f3, x.f4)
theorem phi_le (forms : List Int) (i : Nat) (n : Int) : phiF forms i n ≤ 4 := by
  unfold phiF
  split
  · omega
  · unfold wideK
    repeat' split
    all_goals omega
theorem wt_bulk (l : List S49) : wt (l.map dnF) 0 (l.map dnF).length = (l.map StBerHeads.bulk49).sum := by
  unfold wt
  rw [List.take_of_length_le (Nat.le_refl _), List.drop_zero, List.map_map]
  congr 1
  apply List.map_congr_left
  intro x hx
  show x.f4.size + 6 = 6 + x.f4.size
  omega
theorem rd_dn (l : List S49) : dnF (rd_T49 l 0) = nd (l.map dnF) 0 := by
  unfold rd_T49 nd
  cases l with
  | nil => rfl
  | cons a l => rfl
theorem head_f {b : ByteArray} {h : Hd} (hh : hdr b 0 b.size 1 = .ok h) (hs : b.size ≤ 2097152) : ber_Head.f b = some (h.cls, h.made, h.tag, h.len, h.size, 0) := by
  have hr : headR b = (h, 0) := by unfold headR; rw [hh]
  unfold ber_Head.f
  rw [hr, if_pos (by omega)]
theorem head_e {b : ByteArray} {c q : Int} (hh : hdr b 0 b.size 1 = .error (c, q)) (hs : b.size ≤ 2097152) : ber_Head.f b = some (0, false, 0, 0, 0, c) := by
  have hr : headR b = (hd0, c) := by unfold headR; rw [hh]
  unfold ber_Head.f
  rw [hr, if_pos (by omega)]
  rfl
theorem top_flat (t : Tr) : ∃ (d : Int) (bd : ByteArray) (r : List NodeT), flatT 1 t = (d, (topH t).cls, (topH t).made, (topH t).tag, bd) :: r := by
  cases t with
  | leaf c g b k => exact ⟨1, b, [], by rw [flatT]; rfl⟩
  | made c g f k => exact ⟨1, ⟨#[]⟩, flatF 2 f, by rw [flatT]; rfl⟩
theorem BerHeads : StBerHeads.Pure := by
  intro l forms cut more hl hb hwf hfl hfw hcw hms
  refine Ev.rounds (g := fun k => rosterlaw02_BerHeads.f k l forms cut more) ?_
  obtain ⟨xs, hxs⟩ : ∃ xs, xs = l.map dnF := ⟨_, rfl⟩
  have hlen : xs.length = l.length := by rw [hxs, List.length_map]
  have hwt : wt xs 0 xs.length ≤ 1048576 := by rw [hxs, wt_bulk]; exact hb
  have h1 : rosterlaw02_sound.f l = some (soundB xs) := by
    unfold rosterlaw02_sound.f
    have e : l.map rosterlaw02_sound.dn = xs := hxs.symm
    rw [e, if_pos (by omega)]
  have h2 : rosterlaw02_small.f l = some true := by
    unfold rosterlaw02_small.f
    have e : l.map rosterlaw02_small.dn = xs := hxs.symm
    rw [e, if_pos ⟨by omega, by omega⟩, decide_eq_true (by omega)]
  cases hsd : soundB xs with
  | false =>
    refine Ev.congr (fun k => by rw [rosterlaw02_BerHeads.f, h1, hsd, Option.bind_some, h2, Option.bind_some, if_neg Bool.false_ne_true]) (Ev.step (f := fun _ => some true) (fun k => by rw [rosterlaw02_BerHeads.j0, if_pos rfl]) (Ev.now _))
  | true =>
    obtain ⟨hS, h0⟩ := sound_snd hsd
    obtain ⟨t1, t2, t3, t4, t5⟩ := spelt_tree forms xs hS h0 (by omega) (phi_le forms)
    obtain ⟨t, ht⟩ : ∃ t, t = treeOf (phiF forms) xs := ⟨_, rfl⟩
    obtain ⟨b, hbb⟩ : ∃ b, b = catS (phiF forms) xs xs.length := ⟨_, rfl⟩
    rw [← ht] at t1 t2 t3 t4 t5
    rw [← hbb] at t3
    have hbl : (b.size : Int) = (encT t).length := by rw [← t3, bytesOf_length]
    have hsp : rosterlaw02_spelt.f l forms = some (b, shB forms xs xs.length) := by
      have e : l.map rosterlaw02_spelt.dn = xs := hxs.symm
      unfold rosterlaw02_spelt.f
      rw [e, if_pos ⟨hsd, by omega, by omega⟩, hbb]
    have hts := top_size t
    have htr := top_range t t1
    obtain ⟨h, hh⟩ : ∃ h, h = topH t := ⟨_, rfl⟩
    have hr0 : dnF (rd_T49 l 0) = nd xs 0 := by rw [hxs]; exact rd_dn l
    obtain ⟨dd, bd, r, hfl2⟩ := top_flat t
    rw [← hh] at hts htr hfl2
    have hn0 : nd xs 0 = (dd, h.cls, h.made, h.tag, bd) := by rw [← t4, hfl2]; rfl
    rw [hn0] at hr0
    have g1 : (rd_T49 l 0).f1 = h.cls := congrArg (fun x : NodeT => x.2.1) hr0
    have g2 : (rd_T49 l 0).f2 = h.made := congrArg (fun x : NodeT => x.2.2.1) hr0
    have g3 : (rd_T49 l 0).f3 = h.tag := congrArg (fun x : NodeT => x.2.2.2.1) hr0
    have hby : bytesOf (b ++ more) = encT t ++ bytesOf more := by rw [bytesOf_append, t3]
    have hsz : (b ++ more).size = b.size + more.size := ByteArray.size_append
    have hH1 := head_f (hdr_top t1 (has_of hby).left (b ++ more).size (by omega)) (by omega)
    rw [← hh] at hH1
    have hfin : ∀ k, rosterlaw02_BerHeads.j2 (k + 1) cut b true h.cls h.made h.tag h.len h.size = some true := fun k => by rw [rosterlaw02_BerHeads.j2, if_pos rfl]
    have q1 : b.size + more.size ≤ 9223372036854775807 := by omega
    have q2 : (0 : Int) < (l.length : Int) := by omega
    have q3 : ¬ h.size < 2 := by omega
    have q4 : decide (h.size > 6) = false := decide_eq_false (by omega)
    have hcl : cut < (b.size : Int) → 0 ≤ cut → hdr (b.extract 0 cut.toNat) 0 (b.extract 0 cut.toNat).size 1 = if cut < h.size then .error (20, cut) else .ok h := by
      intro c1 c0
      have e1 : ((cut.toNat : Nat) : Int) = cut := by omega
      have e2 : (b.extract 0 cut.toNat).size = cut.toNat := by simp; omega
      have := hdr_front (hdr_top t1 (has_of t3) b.size (by omega)) cut.toNat (by omega)
      rw [e1, ← hh] at this
      rw [e2, e1]
      exact this
    have q6 : ¬ cut < 0 → ¬ cut ≥ (b.size : Int) → cut ≤ (b.size : Int) ∧ 0 ≤ cut ∧ cut < (b.size : Int) ∧ (b.extract 0 cut.toNat).size ≤ 2097152 := by
      intro c0 c1
      refine ⟨by omega, by omega, by omega, ?_⟩
      simp
      omega
    have q5 : wrap64 (h.size + h.len) = (b.size : Int) := by
      have : wrap64 (h.size + h.len) = h.size + h.len := by unfold wrap64; omega
      rw [this]
      omega
    refine Ev.congr (f := fun k => rosterlaw02_BerHeads.j0 k l forms cut more (!true)) (fun k => by rw [rosterlaw02_BerHeads.f, h1, hsd, Option.bind_some, h2, Option.bind_some, if_pos rfl]) ?_
    refine Ev.step (f := fun k => rosterlaw02_BerHeads.j1 k cut b false h.cls h.made h.tag h.len h.size) (fun k => ?_) ?_
    · rw [rosterlaw02_BerHeads.j0, if_neg (by simp), hsp, Option.bind_some]
      dsimp only
      rw [if_pos q1, hH1, Option.bind_some]
      dsimp only
      rw [if_pos q2, if_pos rfl, g1, g2, g3, if_pos rfl]
      refine Eq.trans (if_neg (show ¬ ((h.made != h.made) = true) by rw [bne_self_eq_false]; exact Bool.false_ne_true)) ?_
      refine Eq.trans (if_pos rfl) (Eq.trans (if_pos q5) (Eq.trans (if_neg q3) ?_))
      rw [q4]
    · by_cases c0 : cut < 0
      · refine Ev.step (f := fun k => rosterlaw02_BerHeads.j2 k cut b true h.cls h.made h.tag h.len h.size) (fun k => by rw [rosterlaw02_BerHeads.j1, if_neg Bool.false_ne_true, if_pos c0]) (Ev.step (f := fun _ => some true) hfin (Ev.now _))
      · by_cases c1 : cut ≥ (b.size : Int)
        · refine Ev.step (f := fun k => rosterlaw02_BerHeads.j2 k cut b true h.cls h.made h.tag h.len h.size) (fun k => by rw [rosterlaw02_BerHeads.j1, if_neg Bool.false_ne_true, if_neg c0, decide_eq_true c1]) (Ev.step (f := fun _ => some true) hfin (Ev.now _))
        · refine Ev.step (f := fun k => rosterlaw02_BerHeads.j2 k cut b false h.cls h.made h.tag h.len h.size) (fun k => by rw [rosterlaw02_BerHeads.j1, if_neg Bool.false_ne_true, if_neg c0, decide_eq_false c1]) ?_
          obtain ⟨r1, r2, r3, r4⟩ := q6 c0 c1
          have hc := hcl r3 r2
          refine Ev.step (f := fun _ => some true) (fun k => ?_) (Ev.now _)
          rw [rosterlaw02_BerHeads.j2, if_neg Bool.false_ne_true, if_pos r2, if_pos r1]
          by_cases c2 : cut < h.size
          · rw [if_pos c2] at hc
            rw [head_e hc r4, Option.bind_some]
            dsimp only
            rw [if_pos c2, if_pos rfl]
            rfl
          · rw [if_neg c2] at hc
            rw [head_f hc r4, Option.bind_some]
            dsimp only
            rw [if_neg c2, if_pos rfl]
            simp
end Go.Proofs.Ytolhmomnidlmaaa.Pure
