/- A framer that has been fed a stream, whatever its chunks: what Feed, Held, Need and Fault answer then. -/
import Derived.Test.YtgihlldkdbjkkaaFd2
import Derived.Test.YtgihlldkdbjkkaaFcp
namespace Go.Proofs.Ytgihlldkdbjkkaa.W
open Go.RowKit Go.Proofs.YtgihlldkdbjkkaaW.PrintWords Go.Proofs.YtgihlldkdbjkkaaW.PrintLast
set_option linter.unusedVariables false
set_option linter.unusedSimpArgs false

/-- A framer that has been fed pre. -/
def FrSt (w : World) (B g : Nat) (v : Value) (limit : Int) (pre : ByteArray) : Prop := FrAt w B g v limit (keptS pre (cutAt limit pre 0)) (cutAt limit pre 0).2.1 (cutAt limit pre 0).2.2
theorem kept_size (limit : Int) (pre : ByteArray) : (keptS pre (cutAt limit pre 0)).size ≤ pre.size := by
  unfold keptS
  split
  · rw [ByteArray.size_extract]; omega
  · exact Nat.zero_le _
theorem kept_good {limit : Int} {pre : ByteArray} (h : (cutAt limit pre 0).2.2 = 0) : keptS pre (cutAt limit pre 0) = pre.extract (cutAt limit pre 0).2.1.toNat pre.size := by unfold keptS; rw [if_pos h]
theorem kept_bad {limit : Int} {pre : ByteArray} (h : (cutAt limit pre 0).2.2 ≠ 0) : keptS pre (cutAt limit pre 0) = ⟨#[]⟩ := by unfold keptS; rw [if_neg h]
theorem kept_feed {limit : Int} {pre u : ByteArray} (h : (cutAt limit pre 0).2.2 = 0) :
    keptS (keptS pre (cutAt limit pre 0) ++ u) (cutAt limit (keptS pre (cutAt limit pre 0) ++ u) 0) = keptS (pre ++ u) (cutAt limit (pre ++ u) 0) := by
  have hp := cut_place limit pre (pre.size + 1) 0 (Nat.zero_le _) (by omega)
  have hf := feed_cut limit pre u h
  rw [kept_good h]
  obtain ⟨q, hq⟩ : ∃ q, q = (cutAt limit pre 0).2.1.toNat := ⟨_, rfl⟩
  have hqi : (cutAt limit pre 0).2.1 = (q : Int) := by omega
  rw [← hq, hqi] at hf
  rw [← hq]
  obtain ⟨k, hk⟩ : ∃ k, k = pre.extract q pre.size ++ u := ⟨_, rfl⟩
  rw [← hk] at hf ⊢
  have hp2 := cut_place limit k (k.size + 1) 0 (Nat.zero_le _) (by omega)
  unfold keptS
  rw [hf]
  simp only
  split
  · have e : ((q : Int) + (cutAt limit k 0).2.1).toNat = q + (cutAt limit k 0).2.1.toNat := by omega
    have hz : (pre ++ u).size = pre.size + u.size := ByteArray.size_append
    rw [e, hk, ← ext_app pre u q (by omega), ext_ext (pre ++ u) q _ (by omega)]
  · rfl
theorem FrSt.at {w w' : World} {B g : Nat} {v : Value} {limit : Int} {pre : ByteArray} (h : FrSt w B g v limit pre) (hb : Below w.heap.size w w') : FrSt w' B g v limit pre := FrAt.at h hb

/-- WHAT Feed ANSWERS. -/
theorem Feed_pre (w : World) (B g : Nat) (v : Value) (limit : Int) (pre u : ByteArray) (A : Option Addr) (c : Nat) (h : FrSt w B g v limit pre) (hC : Kd.C (Kd.int .u8) w A u.size (numsOf u)) (hc : u.size ≤ c)
    (hB : B ≤ w.heap.size) (hs : pre.size + u.size ≤ 16777216) :
    Calls Try.prog 6 #[.pointer (some ⟨g, 0, none⟩), .slice A u.size c] w fun en w' => ∃ v0 v' m, en = .returned (.tuple #[v0, .int .i64 (cutAt limit (pre ++ u) 0).2.2]) ∧
      (cutAt limit (pre ++ u) 0).1 = (cutAt limit pre 0).1 ++ m ∧ Kd.R Kd.string 9 w' w.heap.size (fun _ => True) v0 m ∧ FrSt w' B g v' limit (pre ++ u) ∧
      (v'.ownBlock = none ∨ v'.ownBlock = v.ownBlock ∨ ∃ b, v'.ownBlock = some b ∧ w.heap.size ≤ b) ∧ Two w w' g v.ownBlock := by
  have hp := cut_place limit pre (pre.size + 1) 0 (Nat.zero_le _) (by omega)
  have hk := kept_size limit pre
  by_cases he : (cutAt limit pre 0).2.2 = 0
  · have h1 : FrAt w B g v limit (keptS pre (cutAt limit pre 0)) (cutAt limit pre 0).2.1 0 := by
      have := h
      unfold FrSt at this
      rw [he] at this
      exact this
    refine (Feed_any w B g v limit (cutAt limit pre 0).2.1 (keptS pre (cutAt limit pre 0)) u A c h1 hC hc hB (by omega) (by omega) (by omega)).mono ?_
    rintro en w' ⟨v0, v', rfl, hR, hF, ho, hT⟩
    have hf := feed_cut limit pre u he
    rw [← kept_good he] at hf
    refine ⟨v0, v', (cutAt limit (keptS pre (cutAt limit pre 0) ++ u) 0).1, ?_, ?_, hR, ?_, ho, hT⟩
    · rw [hf]
    · rw [hf]
    · unfold FrSt
      rw [kept_feed he] at hF
      have e2 : (cutAt limit (pre ++ u) 0).2.1 = (cutAt limit pre 0).2.1 + (cutAt limit (keptS pre (cutAt limit pre 0) ++ u) 0).2.1 := by rw [hf]
      have e3 : (cutAt limit (pre ++ u) 0).2.2 = (cutAt limit (keptS pre (cutAt limit pre 0) ++ u) 0).2.2 := by rw [hf]
      rw [e2, e3]
      exact hF
  · have hm := (cut_more limit pre u (pre.size + 1) 0 (Nat.zero_le _) (by omega)).1 he
    refine (Feed_bad w B g v limit (cutAt limit pre 0).2.1 (cutAt limit pre 0).2.2 _ A u.size c h he).mono ?_
    rintro en w' ⟨rfl, hb⟩
    refine ⟨.slice none 0 0, v, [], ?_, by rw [hm]; simp, Kd.R_nil _ _ _ _ _, ?_, .inr (.inl rfl), (Two.refl w g _).below hb⟩
    · rw [hm]
    · have h2 := FrAt.at h hb
      unfold FrSt
      rw [hm]
      have e : keptS (pre ++ u) (cutAt limit pre 0) = keptS pre (cutAt limit pre 0) := by unfold keptS; rw [if_neg he, if_neg he]
      rw [e]
      exact h2
theorem New_st (limit : Int) (w : World) : Calls Try.prog 4 #[.int .i64 limit] w fun en w' => ∃ g, en = .returned (.pointer (some ⟨g, 0, none⟩)) ∧ w.heap.size ≤ g ∧ FrSt w' w.heap.size g (.slice none 0 0) limit ⟨#[]⟩ ∧ Below w.heap.size w w' := by
  refine (New_any limit w).mono ?_
  rintro en w' ⟨g, rfl, hg, hF, hb⟩
  refine ⟨g, rfl, hg, ?_, hb⟩
  unfold FrSt
  have e : cutAt limit ⟨#[]⟩ 0 = ([], 0, 0) := cutAt_end (Nat.le_refl _)
  rw [e]
  exact hF
end Go.Proofs.Ytgihlldkdbjkkaa.W
