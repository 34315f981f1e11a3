/- Plain law: what the printed functions of frame and of the document's frame answer of one header (Need, Head, look). -/
import Derived.Test.YtgihlldkdbjkkaaGLx1
import Derived.Test.YtgihlldkdbjkkaaFS
namespace Go.Proofs.Ytgihlldkdbjkkaa.W
open Go.RowKit Go.Proofs.Ytgihlldkdbjkkaa.GL Go.Proofs.YtgihlldkdbjkkaaW.PrintWords Go.Proofs.YtgihlldkdbjkkaaW.PrintLast
set_option linter.unusedVariables false
set_option linter.unusedSimpArgs false

theorem wr (x : Int) (h0 : 0 ≤ x) (h1 : x < 9223372036854775808) : wrap64 x = x := by unfold wrap64; omega
theorem bt_byt : bt = byt := rfl
theorem toList_len (b : ByteArray) : b.toList.length = b.size := by rw [ByteArray.toList_eq, Array.length_toList]; rfl
theorem toList_nil (b : ByteArray) : b.toList = ([] : List UInt8) ↔ b.size = 0 := by
  rw [← List.length_eq_zero_iff, toList_len]

def headS (limit : Int) (b : ByteArray) : Int × Int :=
  if ¬ (lookS limit b).2.2 = 0 then (0, (lookS limit b).2.2) else if (lookS limit b).1 = 0 then (0, 0) else if (b.size : Int) < (lookS limit b).1 then (0, 0)
  else ((lookS limit b).1 + (lookS limit b).2.1, 0)

theorem look_f (limit : Int) (b : ByteArray) (hb : b.size ≤ 140737488351232) : frame_look.f limit b = some (lookS limit b) := by
  have r0 := byt_range b 0
  have r1 := byt_range b 1
  unfold frame_look.f lookS
  rw [bt_byt]
  by_cases c1 : b.size = 0
  · rw [if_pos ((toList_nil b).2 c1), if_pos c1]
  rw [if_neg (fun h => c1 ((toList_nil b).1 h)), if_neg c1, if_pos (show (0 : Int) < b.size by omega)]
  by_cases c2 : byt b 0 = 48
  · rw [if_pos c2, if_neg (show ¬ byt b 0 ≠ 48 by omega)]
    by_cases c3 : b.size = 1
    · rw [if_pos (show (b.size : Int) = 1 by omega), if_pos c3]
    rw [if_neg (show ¬ (b.size : Int) = 1 by omega), if_neg c3, if_pos (show (1 : Int) < b.size by omega), wr (byt b 1) (by omega) (by omega)]
    by_cases c4 : byt b 1 = 128
    · rw [if_pos c4, if_pos c4]
    rw [if_neg c4, if_neg c4]
    by_cases c5 : 132 < byt b 1
    · rw [if_pos (show byt b 1 > 132 from c5), if_pos c5]
    rw [if_neg (show ¬ byt b 1 > 132 from c5), if_neg c5]
    by_cases c6 : byt b 1 < 128
    · rw [if_neg (show ¬ byt b 1 > 128 by omega), if_pos c6, if_pos (show (b.size : Int) ≥ 2 by omega), wr (2 + byt b 1) (by omega) (by omega)]
      by_cases c7 : limit < 2 + byt b 1
      · rw [if_pos (show 2 + byt b 1 > limit from c7), if_pos c7]
      · rw [if_neg (show ¬ 2 + byt b 1 > limit from c7), if_neg c7]
    · have e : wrap64 (byt b 1 - 128) = byt b 1 - 128 := wr _ (by omega) (by omega)
      have e2 : wrap64 (wrap64 (2 + byt b 1) - 128) = byt b 1 - 126 := by rw [wr (2 + byt b 1) (by omega) (by omega), wr _ (by omega) (by omega)]; omega
      have hn := numAt_lt b 2 (byt b 1 - 128).toNat (by omega)
      rw [if_pos (show byt b 1 > 128 by omega), if_neg c6, e, e2]
      unfold frame_length.f
      rw [if_pos ⟨hb, by omega, by omega⟩, Option.bind_some, wr (byt b 1 - 126 + numAt b 2 (byt b 1 - 128).toNat 0) (by omega) (by omega)]
      by_cases c7 : byt b 1 - 126 ≤ (b.size : Int)
      · rw [if_pos (show (b.size : Int) ≥ byt b 1 - 126 from c7)]
        by_cases c8 : limit < byt b 1 - 126 + numAt b 2 (byt b 1 - 128).toNat 0
        · rw [if_pos (show byt b 1 - 126 + numAt b 2 (byt b 1 - 128).toNat 0 > limit from c8), if_pos ⟨c7, c8⟩]
        · rw [if_neg (show ¬ byt b 1 - 126 + numAt b 2 (byt b 1 - 128).toNat 0 > limit from c8), if_neg (fun h => c8 h.2)]
      · rw [if_neg (show ¬ (b.size : Int) ≥ byt b 1 - 126 from c7), if_neg (fun h => c7 h.1)]
  · rw [if_neg c2, if_pos (show byt b 0 ≠ 48 from c2)]

theorem look_ok (limit : Int) (b : ByteArray) : ((lookS limit b).1 = 0 ∧ (lookS limit b).2.1 = 0 ∧ (lookS limit b).2.2 = 0) ∨ ¬ (lookS limit b).2.2 = 0 ∨ (2 ≤ (lookS limit b).1 ∧ (lookS limit b).1 ≤ 6 ∧ 0 ≤ (lookS limit b).2.1 ∧ (lookS limit b).2.1 < 4294967296 ∧ (lookS limit b).2.2 = 0) := by
  rcases look_range limit b with ⟨h, _⟩ | ⟨e, h, h1, h2⟩ | ⟨s, n, h, h1, h2, h3, h4, _⟩
  · rw [h]; exact .inl ⟨rfl, rfl, rfl⟩
  · rw [h]; exact .inr (.inl (by simp; omega))
  · rw [h]; exact .inr (.inr ⟨h1, h2, h3, h4, rfl⟩)

/-! The contracts, for later texts. -/
theorem look_any (limit : Int) (b : ByteArray) (w : World) (hb : b.size ≤ 140737488351232) :
    Calls Try.prog 10 #[.int .i64 limit, .string b] w fun e w' => e = .returned (.agg #[.int .i64 (lookS limit b).1, .int .i64 (lookS limit b).2.1, .int .i64 (lookS limit b).2.2]) ∧ Below w.heap.size w w' :=
  frame_look.calls limit b _ _ _ w (by rw [look_f limit b hb])
end Go.Proofs.Ytgihlldkdbjkkaa.W
