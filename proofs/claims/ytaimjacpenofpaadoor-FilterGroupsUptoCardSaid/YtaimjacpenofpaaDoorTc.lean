/- Chapter 1's reader over its table: walks of fits, Sequence, Check (the table lies in the world). -/
import Derived.Test.YtaimjacpenofpaaDoorTb
import Derived.Test.YtaimjacpenofpaaDoorVWords
import Derived.Test.YtaimjacpenofpaaDoorVLast
import Derived.Lib.Hide
namespace Go.Proofs.YtaimjacpenofpaaDoor.W
open Go.RowKit Go.Proofs.YtaimjacpenofpaaDoorW.PrintWords Go.Proofs.YtaimjacpenofpaaDoorW.PrintLast
set_option linter.unusedVariables false
set_option linter.unusedSimpArgs false
def T (k : Nat) : Int := tabRows.flatten.getD k 0
/-- The table lies in the world. -/
def Tab (w : World) : Prop := ∀ i, i < 81 → w.cell? ⟨0, i, none⟩ = some (.int .i64 (T i))
theorem Tab.below {B : Nat} {w w' : World} (h : Tab w) (hb : Below B w w') (hB : 0 < B) : Tab w' := fun i hi => by
  rw [← h i hi]
  have := hb.block 0 hB
  simp [World.cell?, this]
theorem _root_.Go.Proofs.YtaimjacpenofpaaDoorW.PrintWords.Drawn0.trans' {a b c : World} (h : Drawn0 a b) (h' : Drawn0 b c) : Drawn0 a c := by
  obtain ⟨n, rfl⟩ := h'.out
  exact h.step n
theorem T_n : ∀ r : Fin 9, 1 ≤ T (r.val * 9) ∧ T (r.val * 9) ≤ 4 := by decide +kernel
/-- The byte at place j; 0 beyond. -/
def bt (s : ByteArray) (j : Nat) : Int := if h : j < s.size then (s[j].toNat : Int) else 0
def Fit (s : ByteArray) (i row : Nat) : Prop := (i : Int) + T (row * 9) ≤ s.size ∧ ∀ j : Nat, (j : Int) < T (row * 9) → T (row * 9 + (1 + 2 * j)) ≤ bt s (i + j) ∧ bt s (i + j) ≤ T (row * 9 + (2 + 2 * j))
def FitEnd (s : ByteArray) (i row : Nat) (w : World) (en : Ending) (w' : World) : Prop := ∃ r, en = .returned (.bool r) ∧ (r = true ↔ Fit s i row) ∧ Drawn0 w w'
theorem fits_any (s : ByteArray) (i row : Nat) (hr : row < 9) (hi : i ≤ s.size) (hs : s.size ≤ 140737488355328) (w : World) (hT : Tab w) (hw : 0 < w.heap.size) :
    Calls Tryd.prog 39 #[.string s, .int .i64 i, .int .i64 row] w fun en w' => FitEnd s i row w en w' := by
  have x0 : w.cell? ⟨0, row * 9, none⟩ = some (.int .i64 (T (row * 9))) := hT (row * 9) (by omega)
  have p0 : (0 : Int) ≤ row := by omega
  have p1 : (row : Int) < 9 := by omega
  obtain ⟨n, hn⟩ : ∃ n, n = T (row * 9) := ⟨_, rfl⟩
  rw [← hn] at x0
  have n1 : 1 ≤ n ∧ n ≤ 4 := by rw [hn]; exact T_n ⟨row, hr⟩
  have w0 : wrap64 ((i : Int) + n) = i + n := by unfold wrap64; omega
  have HN := Lib.hid hn
  have HT := Lib.hid hT
  clear hn hT
  by_cases h0 : (s.size : Int) < i + n
  · go_enter Tryd.func39, Tryd.ntmps39
    go_wp2
    go_ret
    refine ⟨false, rfl, ⟨fun h => (by cases h), fun h => ?_⟩, Drawn0.refl _⟩
    have := h.1
    rw [← HN.out] at this
    omega
  · go_enter Tryd.func39, Tryd.ntmps39
    go_wp2
    go_loopw [8] (fun v wr => ∃ k : Nat, v = .int .i64 k ∧ (k : Int) ≤ n ∧ Hid (∀ j : Nat, j < k → T (row * 9 + (1 + 2 * j)) ≤ bt s (i + j) ∧ bt s (i + j) ≤ T (row * 9 + (2 + 2 * j))) ∧ Drawn0 w wr) (fun v _ => 4 - (intOf v).toNat)
    case atStart => exact ⟨0, rfl, by omega, Lib.hid (fun j hj => by omega), Drawn0.refl _⟩
    case round =>
      obtain ⟨k, rfl, hk, HA, hb⟩ := hrel
      by_cases hkn : (k : Int) < n
      · have k1 : ((k + 1 : Nat) : Int) ≤ n := by omega
        have k2 : 4 - (k + 1) < 4 - k := by omega
        have kk : ∀ j : Nat, j < k + 1 → j ≠ k → j < k := fun j h1 h2 => by omega
        have w1 : wrap64 ((i : Int) + k) = (i : Int) + k := by unfold wrap64; omega
        have w2 : wrap64 (2 * (k : Int)) = 2 * (k : Int) := by unfold wrap64; omega
        have w3 : wrap64 (1 + 2 * (k : Int)) = 1 + 2 * (k : Int) := by unfold wrap64; omega
        have w4 : wrap64 (2 + 2 * (k : Int)) = 2 + 2 * (k : Int) := by unfold wrap64; omega
        have r0 : (0 : Int) ≤ (i : Int) + k := by omega
        have r1 : (i : Int) + k < s.size := by omega
        have r2 : (0 : Int) ≤ 1 + 2 * (k : Int) := by omega
        have r3 : 1 + 2 * (k : Int) < 9 := by omega
        have r4 : (0 : Int) ≤ 2 + 2 * (k : Int) := by omega
        have r5 : 2 + 2 * (k : Int) < 9 := by omega
        have g : i + k < s.size := by omega
        obtain ⟨b, hB⟩ : ∃ b, b = bt s (i + k) := ⟨_, rfl⟩
        have w5 : wrap64 ((s[i + k].toNat : Nat) : Int) = b := by
          have := (s[i + k]).toNat_lt
          rw [hB]
          unfold bt
          rw [dif_pos g]
          unfold wrap64
          omega
        obtain ⟨lo, hlo⟩ : ∃ x, x = T (row * 9 + (1 + 2 * k)) := ⟨_, rfl⟩
        obtain ⟨up, hup⟩ : ∃ x, x = T (row * 9 + (2 + 2 * k)) := ⟨_, rfl⟩
        have hT := HT.out.below hb.below hw
        have y1 : wr.cell? ⟨0, row * 9 + (1 + 2 * k), none⟩ = some (.int .i64 lo) := by rw [hlo]; exact hT _ (by omega)
        have y2 : wr.cell? ⟨0, row * 9 + (2 + 2 * k), none⟩ = some (.int .i64 up) := by rw [hup]; exact hT _ (by omega)
        have HB := Lib.hid hb
        have HBT := Lib.hid hB
        have HLO := Lib.hid hlo
        have HUP := Lib.hid hup
        clear hb hB hlo hup hT
        by_cases q1 : b < lo
        · go_wp2
          go_ret
          refine ⟨false, rfl, ⟨fun h => (by cases h), fun h => ?_⟩, HB.out⟩
          have := (h.2 k (by rw [← HN.out]; exact hkn)).1
          rw [← HLO.out, ← HBT.out] at this
          exact absurd q1 (Int.not_lt.2 this)
        · by_cases q2 : up < b
          · go_wp2
            go_ret
            refine ⟨false, rfl, ⟨fun h => (by cases h), fun h => ?_⟩, HB.out⟩
            have := (h.2 k (by rw [← HN.out]; exact hkn)).2
            rw [← HUP.out, ← HBT.out] at this
            exact absurd q2 (Int.not_lt.2 this)
          · have L1 : lo ≤ b := Int.not_lt.1 q1
            have L2 : b ≤ up := Int.not_lt.1 q2
            have K1 := Lib.hid k1
            have K2 := Lib.hid k2
            have KK := Lib.hid kk
            have LL := Lib.hid (And.intro L1 L2)
            clear k1 k2 kk L1 L2
            go_wp2
            clear w0 w1 w2 w3 w4 w5
            go_roundw
            case rel => exact ⟨k + 1, by go_num, K1.out, Lib.hid (fun j hj => by
              by_cases e : j = k
              · subst e
                rw [← HLO.out, ← HUP.out, ← HBT.out]
                exact LL.out
              · exact HA.out j (KK.out j hj e)), HB.out⟩
            case measure =>
              have := K2.out
              simp [intOf]
              omega
      · have HB := Lib.hid hb
        have hke := Lib.hid (show n = (k : Int) by omega)
        clear hb
        go_wp2
        go_ret
        refine ⟨true, rfl, ⟨fun _ => ⟨by rw [← HN.out]; omega, fun j hj => ?_⟩, fun _ => rfl⟩, HB.out⟩
        rw [← HN.out, hke.out] at hj
        exact HA.out j (by omega)
end Go.Proofs.YtaimjacpenofpaaDoor.W
