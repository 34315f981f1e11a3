/- Plain law of an element's bytes: the first byte, the length in its shortest form, the content. -/
import Derived.Test.YtolhmomnidlmaaaBS
import Derived.Test.YtolhmomnidlmaaaGAx1
namespace Go.Proofs.Ytolhmomnidlmaaa.W
open Go.RowKit Go.Proofs.Ytolhmomnidlmaaa.GA Go.Proofs.YtolhmomnidlmaaaW.PrintWords Go.Proofs.YtolhmomnidlmaaaW.PrintMore
set_option linter.unusedVariables false
set_option linter.unusedSimpArgs false

/-- A length's bytes in the shortest form. -/
def lenNums (n : Int) : List Int :=
  if n < 128 then [n] else if n < 256 then [129, n] else if n < 65536 then [130, n / 256, n % 256]
  else if n < 16777216 then [131, n / 65536, n / 256 % 256, n % 256] else [132, n / 16777216, n / 65536 % 256, n / 256 % 256, n % 256]
def firstOf (cls : Int) (made : Bool) (tag : Int) : Int :=
  if made = true then bits .or .u8 (bits .or .u8 (((cls % 256) * 64) % 256) (tag % 256)) 32 else bits .or .u8 (((cls % 256) * 64) % 256) (tag % 256)
/-- The bytes of an element with that class, form, tag and content. -/
def layS (cls : Int) (made : Bool) (tag : Int) (body : ByteArray) : ByteArray := strOfNums (firstOf cls made tag :: lenNums body.size) ++ body

theorem first_fin : ∀ (c : Fin 4) (t : Fin 31), bits .or .u8 ((((c.val : Int) % 256) * 64) % 256) ((t.val : Int) % 256) = (c.val : Int) * 64 + t.val ∧
    bits .or .u8 (bits .or .u8 ((((c.val : Int) % 256) * 64) % 256) ((t.val : Int) % 256)) 32 = (c.val : Int) * 64 + t.val + 32 := by decide +kernel
theorem first_eq {cls tag : Int} {made : Bool} (h0 : 0 ≤ cls) (h1 : cls ≤ 3) (h2 : 0 ≤ tag) (h3 : tag < 31) : firstOf cls made tag = cls * 64 + tag + (if made = true then 32 else 0) := by
  have h := first_fin ⟨cls.toNat, by omega⟩ ⟨tag.toNat, by omega⟩
  have e1 : ((cls.toNat : Nat) : Int) = cls := by omega
  have e2 : ((tag.toNat : Nat) : Int) = tag := by omega
  simp only [e1, e2] at h
  unfold firstOf
  cases made with
  | true => simp only [if_true]; exact h.2
  | false => simp only [Bool.false_eq_true, if_false]; rw [h.1]; omega

theorem lenNums_len (n : Int) : 1 ≤ (lenNums n).length ∧ (lenNums n).length ≤ 5 := by
  unfold lenNums
  repeat' split
  all_goals simp
theorem shr8 (n : Int) (c : Int) (h : wrap64 (8 * c) = 8 * c) (k : Nat) (hk : (8 * c).toNat = k) (hk2 : k ≤ 64) : shr .i64 n (wrap64 (8 * c)) = n / 2 ^ k := by
  unfold shr
  rw [h, hk, Nat.min_eq_left (by simpa [IntKind.bits] using hk2)]
theorem length_f (n : Int) (h0 : 0 ≤ n) (h1 : n ≤ 4294967295) : ber_length.f 7 n = some (lenNums n) := by
  have w8 : wrap64 (8 * 1) = 8 := by unfold wrap64; omega
  have s1 : shr .i64 n 8 = n / 256 := by unfold shr; rfl
  have s2 : shr .i64 n 16 = n / 65536 := by unfold shr; rfl
  have s3 : shr .i64 n 24 = n / 16777216 := by unfold shr; rfl
  have w16 : wrap64 (8 * 2) = 16 := by unfold wrap64; omega
  have w24 : wrap64 (8 * 3) = 24 := by unfold wrap64; omega
  have w2 : wrap64 (1 + 1) = 2 := by unfold wrap64; omega
  have w3 : wrap64 (2 + 1) = 3 := by unfold wrap64; omega
  have w4 : wrap64 (3 + 1) = 4 := by unfold wrap64; omega
  have a1 : wrap64 (128 + 1) % 256 = 129 := by unfold wrap64; omega
  have a2 : wrap64 (128 + 2) % 256 = 130 := by unfold wrap64; omega
  have a3 : wrap64 (128 + 3) % 256 = 131 := by unfold wrap64; omega
  have a4 : wrap64 (128 + 4) % 256 = 132 := by unfold wrap64; omega
  unfold ber_length.f lenNums
  by_cases c0 : n < 128
  · rw [if_pos c0, if_pos c0, Int.emod_eq_of_lt h0 (by omega)]
  rw [if_neg c0, if_neg c0]
  simp only [ber_length.l0, w8, s1]
  rw [if_pos (by omega), if_pos (by omega)]
  by_cases c1 : n < 256
  · rw [if_neg (by omega), if_pos c1]
    simp only [ber_length.j1, a1, Option.bind_some]
    rw [if_neg (by omega), if_neg (by omega), if_neg (by omega), if_pos (by simp)]
    simp
    omega
  rw [if_pos (by omega), if_neg c1]
  simp only [w2, w16, s2]
  rw [if_pos (by omega), if_pos (by omega)]
  by_cases c2 : n < 65536
  · rw [if_neg (by omega), if_pos c2]
    simp only [ber_length.j1, a2, Option.bind_some]
    rw [if_neg (by omega), if_neg (by omega), if_pos (by trivial), if_pos (by simp), if_pos (by simp)]
    simp
    omega
  rw [if_pos (by omega), if_neg c2]
  simp only [w3, w24, s3]
  rw [if_pos (by omega), if_pos (by omega)]
  by_cases c3 : n < 16777216
  · rw [if_neg (by omega), if_pos c3]
    simp only [ber_length.j1, a3, Option.bind_some]
    rw [if_neg (by omega), if_pos (by trivial), if_pos (by simp), if_pos (by simp), if_pos (by simp)]
    simp
    omega
  rw [if_pos (by omega), if_neg c3]
  simp only [w4]
  rw [if_neg (by omega)]
  simp only [ber_length.j1, a4, Option.bind_some]
  rw [if_pos (by trivial), if_pos (by simp), if_pos (by simp), if_pos (by simp), if_pos (by simp)]
  simp
  omega
theorem strOfNums_size (l : List Int) : (strOfNums l).size = l.length := by
  show (l.map fun n => UInt8.ofNat n.toNat).toArray.size = _
  simp
theorem lay_f (cls : Int) (made : Bool) (tag : Int) (body : ByteArray) (hb : body.size ≤ 4294967295) : ber_lay.f 7 cls made tag body = some (layS cls made tag body) := by
  unfold ber_lay.f layS firstOf
  have hl := lenNums_len body.size
  rw [if_neg (by omega), length_f _ (by omega) (by omega)]
  cases made with
  | true =>
    simp only [if_true, Option.bind_some, List.singleton_append, List.length_singleton]
    rw [if_pos (by omega), strOfNums_size]
    simp only [List.length_cons]
    rw [if_pos (by omega)]
  | false =>
    simp only [Bool.false_eq_true, if_false, Option.bind_some, List.singleton_append, List.length_singleton]
    rw [if_pos (by omega), strOfNums_size]
    simp only [List.length_cons]
    rw [if_pos (by omega)]
end Go.Proofs.Ytolhmomnidlmaaa.W
