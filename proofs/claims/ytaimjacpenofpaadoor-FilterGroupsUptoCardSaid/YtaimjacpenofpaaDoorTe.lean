/- Chapter 1's reader over its table: Check (walk). -/
import Derived.Test.YtaimjacpenofpaaDoorTd
namespace Go.Proofs.YtaimjacpenofpaaDoor.W
open Go.RowKit Go.Proofs.YtaimjacpenofpaaDoorW.PrintWords Go.Proofs.YtaimjacpenofpaaDoorW.PrintLast
set_option linter.unusedVariables false
set_option linter.unusedSimpArgs false
theorem T_r : ∀ r : Fin 9, 1 ≤ T (r.val * 9) ∧ T (r.val * 9) ≤ 4 := T_n
theorem SeqIs.bound {s : ByteArray} {i : Nat} {n : Int} (h : SeqIs s i n) (hi : i ≤ s.size) : 0 ≤ n ∧ n ≤ 4 ∧ (i : Int) + n ≤ s.size := by
  rcases h with ⟨r, hr, hf, _, rfl⟩ | ⟨_, rfl⟩
  · have this : 1 ≤ T (r * 9) ∧ T (r * 9) ≤ 4 := T_r ⟨r, hr⟩
    exact ⟨by have := this.1; omega, this.2, hf.1⟩
  · exact ⟨by omega, by omega, by omega⟩
/-- The places that Check comes to. -/
inductive To (s : ByteArray) : Nat → Prop
  | zero : To s 0
  | step {j : Nat} {n : Int} : To s j → SeqIs s j n → n ≠ 0 → To s (j + n.toNat)
def ChkIs (s : ByteArray) (e a : Int) : Prop := ∃ j, To s j ∧ ((e = 0 ∧ j = s.size ∧ a = s.size) ∨ (e = 10 ∧ SeqIs s j 0 ∧ j < s.size ∧ a = j))
def ChkEnd (s : ByteArray) (w : World) (en : Ending) (w' : World) : Prop := ∃ e a : Int, en = .returned (.tuple #[.int .i64 e, .int .i64 a]) ∧ ChkIs s e a ∧ Drawn0 w w'
theorem chk_any (s : ByteArray) (hs : s.size ≤ 140737488355328) (w : World) (hT : Tab w) (hw : 0 < w.heap.size) :
    Calls Tryd.prog 34 #[.string s] w (ChkEnd s w) := by
  have HT := Lib.hid hT
  clear hT
  go_enter Tryd.func34, Tryd.ntmps34
  go_wp2
  go_loopw [4] (fun v wr => ∃ i : Nat, v = .int .i64 i ∧ i ≤ s.size ∧ Hid (To s i) ∧ Drawn0 w wr) (fun v _ => s.size - (intOf v).toNat)
  case atStart => exact ⟨0, rfl, by omega, Lib.hid To.zero, Drawn0.refl _⟩
  case round =>
    obtain ⟨i, rfl, hi, HA, hb⟩ := hrel
    by_cases hil : i < s.size
    · have p1 : (i : Int) < s.size := by omega
      have hwr : 0 < wr.heap.size := Nat.lt_of_lt_of_le hw hb.below.size
      have HTr := Lib.hid (HT.out.below hb.below hw)
      have HB := Lib.hid hb
      clear hb
      go_wp2_with fail
      refine (seq_any s i hi hs _ HTr.out hwr).mono ?_
      rintro en w2 ⟨n, rfl, hn, hb2⟩
      have HB2 := Lib.hid (HB.out.trans' hb2)
      obtain ⟨n0, n4, nb⟩ := hn.bound hi
      have HN := Lib.hid hn
      clear hb2 hn
      by_cases hz : n = 0
      · subst hz
        go_wp2
        go_ret2
        exact ⟨10, i, rfl, ⟨i, HA.out, Or.inr ⟨rfl, HN.out, hil, rfl⟩⟩, HB2.out⟩
      · have hzb : (n == 0) = false := by simpa using hz
        obtain ⟨m, hm⟩ : ∃ m : Nat, (m : Int) = (i : Int) + n := ⟨i + n.toNat, by omega⟩
        have hmi : m = i + n.toNat := by omega
        have m1 : m ≤ s.size := by omega
        have m2 : s.size - m < s.size - i := by omega
        have w0 : wrap64 ((i : Int) + n) = m := by unfold wrap64; omega
        have HM := Lib.hid hmi
        have HMI := Lib.hid hm
        have HM1 := Lib.hid m1
        have HM2 := Lib.hid m2
        have HZ := Lib.hid hz
        clear hm hmi m1 m2 hz
        go_wp2
        clear w0
        go_roundw
        case rel => exact ⟨m, by rw [HMI.out], HM1.out, Lib.hid (by rw [HM.out]; exact To.step HA.out HN.out HZ.out), HB2.out⟩
        case measure =>
          have := HM2.out
          have := HMI.out
          simp [intOf]
          omega
    · obtain rfl : i = s.size := by omega
      have HB := Lib.hid hb
      clear hb
      go_wp2
      go_ret2
      exact ⟨0, s.size, rfl, ⟨s.size, HA.out, Or.inl ⟨rfl, rfl, rfl⟩⟩, HB.out⟩
end Go.Proofs.YtaimjacpenofpaaDoor.W
