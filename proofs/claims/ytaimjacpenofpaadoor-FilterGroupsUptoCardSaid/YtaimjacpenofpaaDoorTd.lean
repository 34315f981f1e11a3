/- Chapter 1's reader over its table: Sequence (walk). -/
import Derived.Test.YtaimjacpenofpaaDoorTc
namespace Go.Proofs.YtaimjacpenofpaaDoor.W
open Go.RowKit Go.Proofs.YtaimjacpenofpaaDoorW.PrintWords Go.Proofs.YtaimjacpenofpaaDoorW.PrintLast
set_option linter.unusedVariables false
set_option linter.unusedSimpArgs false
/-- What Sequence tells: the first row that fits, its length; 0 where none does. -/
def SeqIs (s : ByteArray) (i : Nat) (n : Int) : Prop := (∃ r : Nat, r < 9 ∧ Fit s i r ∧ (∀ q : Nat, q < r → ¬ Fit s i q) ∧ n = T (r * 9)) ∨ ((∀ q : Nat, q < 9 → ¬ Fit s i q) ∧ n = 0)
def SeqEnd (s : ByteArray) (i : Nat) (w : World) (en : Ending) (w' : World) : Prop := ∃ n : Int, en = .returned (.int .i64 n) ∧ SeqIs s i n ∧ Drawn0 w w'
theorem seq_any (s : ByteArray) (i : Nat) (hi : i ≤ s.size) (hs : s.size ≤ 140737488355328) (w : World) (hT : Tab w) (hw : 0 < w.heap.size) :
    Calls Tryd.prog 37 #[.string s, .int .i64 i] w (SeqEnd s i w) := by
  have HT := Lib.hid hT
  clear hT
  go_enter Tryd.func37, Tryd.ntmps37
  go_wp2
  go_loopw [5] (fun v wr => ∃ r : Nat, v = .int .i64 r ∧ r ≤ 9 ∧ Hid (∀ q : Nat, q < r → ¬ Fit s i q) ∧ Drawn0 w wr) (fun v _ => 9 - (intOf v).toNat)
  case atStart => exact ⟨0, rfl, by omega, Lib.hid (fun q hq => by omega), Drawn0.refl _⟩
  case round =>
    obtain ⟨r, rfl, hr, HA, hb⟩ := hrel
    by_cases hr9 : r < 9
    · have p0 : (0 : Int) ≤ r := by omega
      have p1 : (r : Int) < 9 := by omega
      have hwr : 0 < wr.heap.size := Nat.lt_of_lt_of_le hw hb.below.size
      have HTr := Lib.hid (HT.out.below hb.below hw)
      have HB := Lib.hid hb
      clear hb
      go_wp2_with fail
      refine (fits_any s i r hr9 hi hs _ HTr.out hwr).mono ?_
      rintro en w2 ⟨b, rfl, hf, hb2⟩
      have x0 : w2.cell? ⟨0, r * 9, none⟩ = some (.int .i64 (T (r * 9))) := (HTr.out.below hb2.below hwr) _ (by omega)
      have HB2 := Lib.hid (HB.out.trans' hb2)
      have HF := Lib.hid hf
      clear hb2 hf
      cases b with
      | true =>
        have F := Lib.hid (HF.out.1 rfl)
        clear HF
        go_wp2
        go_ret
        exact ⟨_, rfl, Or.inl ⟨r, hr9, F.out, HA.out, rfl⟩, HB2.out⟩
      | false =>
        have F0 : ¬ Fit s i r := fun h => by
          have := HF.out.2 h
          cases this
        have F := Lib.hid F0
        clear F0
        clear HF
        go_wp2
        go_roundw
        case rel => exact ⟨r + 1, by go_num, by omega, Lib.hid (fun q hq => by
          by_cases e : q = r
          · subst e; exact F.out
          · exact HA.out q (by omega)), HB2.out⟩
        case measure => simp [intOf]; omega
    · obtain rfl : r = 9 := by omega
      have HB := Lib.hid hb
      clear hb
      go_wp2
      go_ret
      exact ⟨_, rfl, Or.inr ⟨HA.out, rfl⟩, HB.out⟩
end Go.Proofs.YtaimjacpenofpaaDoor.W
