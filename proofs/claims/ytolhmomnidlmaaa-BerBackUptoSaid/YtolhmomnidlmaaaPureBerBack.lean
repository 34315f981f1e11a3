/- BerBack: ber.Write takes a list exactly if it is a tree within the depths, and ber.Tree gives that very tree back; what isn't one is refused, with no byte. (Lists of at most 1048576 nodes and bytes.) -/
import Derived.Test.YtolhmomnidlmaaaStBerBack
import Derived.Test.YtolhmomnidlmaaaFt
namespace Go.Proofs.Ytolhmomnidlmaaa.Pure
open Go.RowKit Go.Proofs.Ytolhmomnidlmaaa.GK Go.Proofs.Ytolhmomnidlmaaa.W Go.Proofs.YtolhmomnidlmaaaW.PrintWords Go.Proofs.YtolhmomnidlmaaaW.PrintLast
set_option linter.unusedVariables false
set_option linter.unusedSimpArgs false

theorem sameN_loop (l : List S49) (hl : l.length ≤ 1000000000) : ∀ (m i : Nat), i + m = l.length → rosterlaw02_sameNodes.l0 (m + 1) l l i = some true := by
  intro m
  induction m with
  | zero => intro i h; rw [rosterlaw02_sameNodes.l0, if_neg (by omega)]
  | succ m ih =>
    intro i h
    have e : wrap64 ((i : Int) + 1) = ((i + 1 : Nat) : Int) := by unfold wrap64; omega
    rw [rosterlaw02_sameNodes.l0, if_pos (by omega), if_pos (by omega), if_pos (by omega), if_neg (by simp), e]
    exact ih (i + 1) (by omega)
theorem sameN_f (l : List S49) (hl : l.length ≤ 1000000000) : rosterlaw02_sameNodes.f (l.length + 1) l l = some true := by
  unfold rosterlaw02_sameNodes.f
  rw [if_pos rfl]
  exact sameN_loop l hl l.length 0 (by omega)
theorem wt_bulk (l : List S49) : wt (l.map ber_Write.dn) 0 (l.map ber_Write.dn).length = (l.map StBerBack.bulk49).sum := by
  unfold wt
  rw [List.take_of_length_le (Nat.le_refl _), List.drop_zero, List.map_map]
  congr 1
  apply List.map_congr_left
  intro x hx
  show x.f4.size + 6 = 6 + x.f4.size
  omega
theorem BerBack : StBerBack.Pure := by
  intro l hl hb hwf
  refine ⟨l.length + 1, ?_⟩
  obtain ⟨xs, hxs⟩ : ∃ xs, xs = l.map ber_Write.dn := ⟨_, rfl⟩
  have hlen : xs.length = l.length := by rw [hxs, List.length_map]
  have hwt : wt xs 0 xs.length ≤ 1048576 := by rw [hxs, wt_bulk]; exact hb
  have h1 : rosterlaw02_sound.f l = some (soundB xs) := by
    unfold rosterlaw02_sound.f
    have e : l.map rosterlaw02_sound.dn = xs := hxs.symm
    rw [e, if_pos (by omega)]
  have h2 : rosterlaw02_small.f l = some true := by
    unfold rosterlaw02_small.f
    have e : l.map rosterlaw02_small.dn = xs := hxs.symm
    rw [e, if_pos ⟨by omega, by omega⟩, decide_eq_true (by omega)]
  have h3 : ber_Write.f l = some ((writeS xs).1, (writeS xs).2.1, (writeS xs).2.2) := by
    unfold ber_Write.f
    rw [← hxs, if_pos ⟨by omega, by omega⟩]
  have hback : xs.map ber_Tree.up = l := by
    rw [hxs, List.map_map]
    exact List.map_id _
  have hsame := sameN_f l (by omega)
  unfold rosterlaw02_BerBack.f
  rw [h1, Option.bind_some, h2, Option.bind_some, if_pos rfl, h3, Option.bind_some]
  cases hs : soundB xs with
  | true =>
    obtain ⟨b, hw, -⟩ := write_sound xs hs (by omega)
    have ht := write_tree xs hs (by omega) b hw
    have hsz := write_size xs hs b hw
    have h4 : ber_Tree.f b = some (xs.map ber_Tree.up, 0, 0) := by
      unfold ber_Tree.f
      rw [ht, if_pos (by omega)]
    rw [if_pos rfl, hw]
    dsimp only
    rw [h4, Option.bind_some, if_pos rfl]
    dsimp only
    rw [if_pos rfl, hback, hsame, Option.bind_some]
  | false =>
    obtain ⟨c, q, hw, hc⟩ := write_bad xs hs
    rw [if_neg Bool.false_ne_true, hw]
    dsimp only
    have e : (⟨#[]⟩ : ByteArray).toList = [] := by rw [ByteArray.toList_eq]
    rw [if_neg hc, e]
    rfl
end Go.Proofs.Ytolhmomnidlmaaa.Pure
