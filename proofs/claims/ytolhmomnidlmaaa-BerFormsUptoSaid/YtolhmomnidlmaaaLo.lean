/- Contracts of the statements' own wide and long: the form of a length, the bytes of a header. -/
import Derived.Test.YtolhmomnidlmaaaFt
import Derived.Lib.Hide
import Derived.Test.YtolhmomnidlmaaaGUx1
import Derived.Test.YtolhmomnidlmaaaGUx1
namespace Go.Proofs.Ytolhmomnidlmaaa.W
open Go.RowKit Go.Proofs.Ytolhmomnidlmaaa.GU Go.Proofs.YtolhmomnidlmaaaW.PrintWords Go.Proofs.YtolhmomnidlmaaaW.PrintLast
set_option linter.unusedVariables false
set_option linter.unusedSimpArgs false

theorem wide_any (n : Int) (w : World) : Calls Try.prog 59 #[.int .i64 n] w fun e w' => e = .returned (.int .i64 (wideK n : Nat)) ∧ Drawn0 w w' := by
  refine rosterlaw02_wide.calls n _ w ?_
  unfold rosterlaw02_wide.f wideK
  repeat' split
  all_goals rfl
/-- The bytes of a header. -/
def headS (cls : Int) (made : Bool) (tag n : Int) (k : Nat) : ByteArray := strOfNums (headB cls made tag n k)
theorem headS_bytes {cls tag n : Int} {made : Bool} {k : Nat} (h : okN cls tag) (hf : okForm n k) (n0 : 0 ≤ n) : bytesOf (headS cls made tag n k) = headB cls made tag n k := bytesOf_str _ (headB_range h hf n0)
theorem headS_size (cls : Int) (made : Bool) (tag n : Int) (k : Nat) : ((headS cls made tag n k).size : Int) = hsz k := by
  unfold headS
  rw [strOfNums_size, head_len]
theorem str_app (a b : List Int) : strOfNums a ++ strOfNums b = strOfNums (a ++ b) := by
  unfold strOfNums
  apply ByteArray.ext
  simp
theorem be_front : ∀ (i : Nat) (n : Int), [n / 256 ^ i % 256] ++ be n i = be n (i + 1) := by
  intro i
  induction i with
  | zero => intro n; rw [be, be, be]; simp
  | succ i ih =>
    intro n
    have e : n / 256 ^ (i + 1) = n / 256 / 256 ^ i := by rw [Int.ediv_ediv_of_nonneg (by omega), Int.pow_succ, Int.mul_comm]
    rw [be, ← List.append_assoc, e, ih (n / 256)]
    rfl
theorem long_loop (n x7 : Int) (k : Nat) (hk : k ≤ 4) (h0 : 0 ≤ n) (h1 : n ≤ 4294967295) : ∀ (m i : Nat), i + m = k → ∀ r : ByteArray, r = strOfNums ([x7 % 256, 128 + (k : Int)] ++ be n k) →
    Ev (fun q => rosterlaw02_long.l0 q (n / 256 ^ i) (k : Int) x7 (strOfNums (be n i)) (i : Int)) r := by
  intro m
  induction m with
  | zero =>
    intro i hi r hr
    obtain rfl : i = k := by omega
    refine Ev.step (f := fun _ => some r) (fun q => ?_) (Ev.now _)
    have q1 : ¬ (i : Int) < (i : Int) := by omega
    have q2 : (128 + (i : Int)) % 256 = 128 + (i : Int) := by omega
    have q3 : (strOfNums [x7 % 256, 128 + (i : Int)]).size + (strOfNums (be n i)).size ≤ 9223372036854775807 := by rw [strOfNums_size, strOfNums_size, be_len]; simp; omega
    have e : wrap64 (128 + (i : Int)) = 128 + (i : Int) := wrI _ (by omega) (by omega)
    rw [rosterlaw02_long.l0, if_neg q1, Option.bind_some, e, q2, if_pos q3, str_app, hr]
  | succ m ih =>
    intro i hi r hr
    refine Ev.step (fun q => ?_) (ih (i + 1) (by omega) r hr)
    have q1 : (i : Int) < (k : Int) := by omega
    have hp : (0 : Int) < 256 ^ i := Int.pow_pos (by omega)
    have hd0 : 0 ≤ n / 256 ^ i := Int.ediv_nonneg h0 (by omega)
    have hd1 : n / 256 ^ i ≤ n := Int.ediv_le_self _ h0
    have e1 : Int.tmod (n / 256 ^ i) 256 % 256 = n / 256 ^ i % 256 := by rw [Int.tmod_eq_emod_of_nonneg hd0]; omega
    have e3 : Int.tdiv (n / 256 ^ i) 256 = n / 256 ^ (i + 1) := by rw [Int.tdiv_eq_ediv_of_nonneg hd0, Int.ediv_ediv_of_nonneg (by omega), ← Int.pow_succ]
    have hd3 : 0 ≤ n / 256 ^ (i + 1) ∧ n / 256 ^ (i + 1) ≤ n := ⟨Int.ediv_nonneg h0 (Int.pow_nonneg (by omega)), Int.ediv_le_self _ h0⟩
    have q3 : (strOfNums [n / 256 ^ i % 256]).size + (strOfNums (be n i)).size ≤ 9223372036854775807 := by rw [strOfNums_size, strOfNums_size, be_len]; simp; omega
    have e4 : [n / 256 ^ i % 256] ++ be n i = be n (i + 1) := be_front i n
    have e5 : wrap64 (n / 256 ^ (i + 1)) = n / 256 ^ (i + 1) := wrI _ (by omega) (by omega)
    have e6 : wrap64 ((i : Int) + 1) = ((i + 1 : Nat) : Int) := by rw [wrI _ (by omega) (by omega)]; omega
    rw [rosterlaw02_long.l0, if_pos q1, Option.bind_some, e1, e3, e5, e6, if_pos q3, str_app, e4]
theorem long_any (d cls tag n : Int) (made : Bool) (body : ByteArray) (k : Nat) (w : World) (h : okN cls tag) (hf : okForm n k) (h0 : 0 ≤ n) (h1 : n ≤ 4294967295) :
    Calls Try.prog 60 #[.agg #[.int .i64 d, .int .i64 cls, .bool made, .int .i64 tag, .string body], .int .i64 n, .int .i64 (k : Nat)] w fun e w' => e = .returned (.string (headS cls made tag n k)) ∧ Below w.heap.size w w' := by
  have hk := okForm_le hf
  obtain ⟨x7, hx7⟩ : ∃ x7, x7 = cls * 64 + tag + (if made = true then 32 else 0) := ⟨_, rfl⟩
  have hx : 0 ≤ x7 ∧ x7 < 256 := by unfold okN at h; rw [hx7]; split <;> omega
  have hj : Ev (fun q => rosterlaw02_long.j0 q n (k : Int) x7) (headS cls made tag n k) := by
    by_cases c : k = 0
    · subst c
      refine Ev.step (f := fun _ => some _) (fun q => ?_) (Ev.now _)
      have hn : n < 128 := by rcases hf with h | h <;> omega
      have e1 : x7 % 256 = x7 := by omega
      have e2 : n % 256 = n := by omega
      rw [rosterlaw02_long.j0, if_pos (show ((0 : Nat) : Int) = 0 from rfl), e1, e2]
      unfold headS headB lenB
      rw [if_pos rfl, ← hx7]
    · refine Ev.step (fun q => by rw [rosterlaw02_long.j0, if_neg (by omega)]) (f := fun q => rosterlaw02_long.l0 q n (k : Int) x7 ⟨#[]⟩ 0) ?_
      have e1 : x7 % 256 = x7 := by omega
      have := long_loop n x7 k hk h0 h1 k 0 (by omega) (headS cls made tag n k) (by
        unfold headS headB lenB
        rw [if_neg c, ← hx7, e1]
        rfl)
      have e2 : n / 256 ^ 0 = n := by simp
      rw [e2] at this
      exact this
  obtain ⟨q, hq⟩ := Ev.rounds hj
  refine rosterlaw02_long.calls q d cls made tag body n (k : Int) _ w ?_
  unfold okN at h
  have e1 : wrap64 (cls * 64) = cls * 64 := wrI _ (by omega) (by omega)
  have e2 : wrap64 (cls * 64 + tag) = cls * 64 + tag := wrI _ (by omega) (by omega)
  have e3 : wrap64 (cls * 64 + tag + 32) = cls * 64 + tag + 32 := wrI _ (by omega) (by omega)
  unfold rosterlaw02_long.f
  rw [e1, e2, e3]
  cases made with
  | true => rw [if_pos rfl]; rw [hx7, if_pos rfl] at hq; exact hq
  | false => rw [if_neg Bool.false_ne_true]; rw [hx7, if_neg Bool.false_ne_true, Int.add_zero] at hq; exact hq
end Go.Proofs.Ytolhmomnidlmaaa.W
