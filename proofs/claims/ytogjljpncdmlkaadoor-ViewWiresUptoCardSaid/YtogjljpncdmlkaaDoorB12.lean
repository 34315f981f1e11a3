/- Texts of this claim in one: Tb, Tc, Td, Te, Tf, GVx2 -/
import Derived.Test.YtogjljpncdmlkaaDoorB3
import Derived.Test.YtogjljpncdmlkaaDoorRows
import Derived.OpenShut
import Derived.WalkKit
import Derived.ProofKit
import Derived.Lib.LaidTab
import Derived.Below
import Derived.Test.YtogjljpncdmlkaaDoorB0
import Derived.Test.YtogjljpncdmlkaaDoorB1
import Derived.Lib.Hide
import Derived.Test.YtogjljpncdmlkaaDoorB11
section
namespace Go.Proofs.YtogjljpncdmlkaaDoor.W
open Go.ChangeShapes Go.WideShapes Go.ChangeAt Go.RowKit
set_option linter.unusedVariables false
def tabRows : List (List Int) := [[1, 0, 127, 0, 0, 0, 0, 0, 0], [2, 194, 223, 128, 191, 0, 0, 0, 0], [3, 224, 224, 160, 191, 128, 191, 0, 0], [3, 225, 236, 128, 191, 128, 191, 0, 0], [3, 237, 237, 128, 159, 128, 191, 0, 0], [3, 238, 239, 128, 191, 128, 191, 0, 0], [4, 240, 240, 144, 191, 128, 191, 128, 191], [4, 241, 243, 128, 191, 128, 191, 128, 191], [4, 244, 244, 128, 143, 128, 191, 128, 191]]
theorem chunks {α β : Type} (f : α → β) (n : Nat) : ∀ (rows : List (List α)) (cs : List β), cs.length = rows.length * n → (∀ j row, rows[j]? = some row → (cs.drop (j * n)).take n = row.map f) → cs = rows.flatten.map f := by
  intro rows
  induction rows with
  | nil =>
    intro cs hl _
    rw [List.length_nil, Nat.zero_mul] at hl
    rw [List.length_eq_zero_iff.1 hl]
    rfl
  | cons r rest ih =>
    intro cs hl h
    have h0 := h 0 r rfl
    rw [Nat.zero_mul, List.drop_zero] at h0
    rw [List.length_cons] at hl
    have h1 := ih (cs.drop n) (by rw [List.length_drop, hl, Nat.add_mul]; omega) fun j row hj => by
      have := h (j + 1) row (by simpa using hj)
      rwa [Nat.add_mul, Nat.one_mul, Nat.add_comm, ← List.drop_drop] at this
    rw [List.flatten_cons, List.map_append, ← h0, ← h1, List.take_append_drop]
theorem table {W : World} (h : laidMetH Tryd.prog [("roster/rosterref01.rows", Rows.laid_roster_rosterref01_rows)] W) : Lib.TabIs Tryd.prog W "roster/rosterref01.rows" .i64 tabRows.flatten := by
  have h' : laidMet Tryd.prog [("roster/rosterref01.rows", Rows.laid_roster_rosterref01_rows)] W := h
  obtain ⟨ps, ⟨g', t', cs, fuel, p, q, hg', ht', hvar, hd, _, _⟩, _⟩ := h'
  obtain rfl := Option.some.inj ((show Tryd.prog.globalNamed "roster/rosterref01.rows" = some 0 by kernel_rfl).symm.trans hg')
  obtain rfl := Option.some.inj ((show (Tryd.prog.globals[0]?).map (·.type) = some 93 by kernel_rfl).symm.trans ht')
  obtain ⟨xs, m, _, hx, hl, hn, hf⟩ := DataW.trod_array Tryd.underlying93 hd
  have hx' : Rows.laid_roster_rosterref01_rows = DataW.agg (xs.map (·.1)) := congrArg Prod.fst hx
  have hxs : (tabRows.map fun r => (Lib.tabData .i64 r : DataW Unit)) = xs.map (·.1) := by
    have e : Rows.laid_roster_rosterref01_rows = DataW.agg (tabRows.map fun r => (Lib.tabData .i64 r : DataW Unit)) := rfl
    rw [e] at hx'
    injection hx'
  have hcs : cs.toList = tabRows.flatten.map fun z => Value.int .i64 z := by
    refine chunks _ 9 tabRows cs.toList (hl.trans q9_) fun j row hj => ?_
    have hj9 : j < 9 := (List.getElem?_eq_some_iff.1 hj).1
    have e1 := hf j hj9
    rw [show Tryd.prog.cellsOf 92 = 9 by kernel_rfl] at e1
    have e2 : (xs.map (·.1))[j]? = some (Lib.tabData .i64 row) := by rw [← hxs, List.getElem?_map, hj]; rfl
    rw [List.getElem?_map] at e2
    obtain ⟨y, hy, hyd⟩ := Option.map_eq_some_iff.1 e2
    obtain ⟨yd, yp⟩ := y
    have hyd' : yd = Lib.tabData .i64 row := hyd
    subst hyd'
    rw [hy] at e1
    exact Lib.cells_of_tab Tryd.underlying92 Tryd.underlying3 q9_ q9_ e1
  unfold Lib.TabIs
  rw [hvar, ← hcs]
theorem table_cell {W : World} (h : laidMetH Tryd.prog [("roster/rosterref01.rows", Rows.laid_roster_rosterref01_rows)] W) (i : Nat) (hi : i < 81) : W.cell? ⟨0, i, none⟩ = some (.int .i64 (tabRows.flatten.getD i 0)) :=
  (table h).cell q9_ i hi
end Go.Proofs.YtogjljpncdmlkaaDoor.W
end
section
namespace Go.Proofs.YtogjljpncdmlkaaDoor.W
open Go.RowKit Go.Proofs.YtogjljpncdmlkaaDoorW.PrintWords Go.Proofs.YtogjljpncdmlkaaDoorW.PrintLast
set_option linter.unusedVariables false
set_option linter.unusedSimpArgs false
def T (k : Nat) : Int := tabRows.flatten.getD k 0
def Tab (w : World) : Prop := ∀ i, i < 81 → w.cell? ⟨0, i, none⟩ = some (.int .i64 (T i))
theorem Tab.below {B : Nat} {w w' : World} (h : Tab w) (hb : Below B w w') (hB : 0 < B) : Tab w' := fun i hi => by
  rw [← h i hi]
  have := hb.block 0 hB
  simp [World.cell?, this]
theorem _root_.Go.Proofs.YtogjljpncdmlkaaDoorW.PrintWords.Drawn0.trans' {a b c : World} (h : Drawn0 a b) (h' : Drawn0 b c) : Drawn0 a c := by
  obtain ⟨n, rfl⟩ := h'.out
  exact h.step n
theorem T_n : ∀ r : Fin 9, 1 ≤ T (r.val * 9) ∧ T (r.val * 9) ≤ 4 := by decide +kernel
def bt (s : ByteArray) (j : Nat) : Int := if h : j < s.size then (s[j].toNat : Int) else 0
def Fit (s : ByteArray) (i row : Nat) : Prop := (i : Int) + T (row * 9) ≤ s.size ∧ ∀ j : Nat, (j : Int) < T (row * 9) → T (row * 9 + (1 + 2 * j)) ≤ bt s (i + j) ∧ bt s (i + j) ≤ T (row * 9 + (2 + 2 * j))
def FitEnd (s : ByteArray) (i row : Nat) (w : World) (en : Ending) (w' : World) : Prop := ∃ r, en = .returned (.bool r) ∧ (r = true ↔ Fit s i row) ∧ Drawn0 w w'
theorem fits_any (s : ByteArray) (i row : Nat) (hr : row < 9) (hi : i ≤ s.size) (hs : s.size ≤ 140737488355328) (w : World) (hT : Tab w) (hw : 0 < w.heap.size) :
    Calls Tryd.prog 49 #[.string s, .int .i64 i, .int .i64 row] w fun en w' => FitEnd s i row w en w' := by
  have x0 : w.cell? ⟨0, row * 9, none⟩ = some (.int .i64 (T (row * 9))) := hT (row * 9) q2_
  have p0 : (0 : Int) ≤ row := by omega
  have p1 : (row : Int) < 9 := by omega
  obtain ⟨n, hn⟩ : ∃ n, n = T (row * 9) := ⟨_, rfl⟩
  rw [← hn] at x0
  have n1 : 1 ≤ n ∧ n ≤ 4 := by rw [hn]; exact T_n ⟨row, hr⟩
  have w0 : wrap64 ((i : Int) + n) = i + n := by unfold wrap64; omega
  have HN := Lib.hid hn
  have HT := Lib.hid hT
  clear hn hT
  by_cases h0 : (s.size : Int) < i + n
  · go_enter Tryd.func49, Tryd.ntmps49
    go_wp2
    go_ret
    refine ⟨false, rfl, ⟨fun h => (by cases h), fun h => ?_⟩, Drawn0.refl _⟩
    have := h.1
    rw [← HN.out] at this
    omega
  · go_enter Tryd.func49, Tryd.ntmps49
    go_wp2
    go_loopw [8] (fun v wr => ∃ k : Nat, v = .int .i64 k ∧ (k : Int) ≤ n ∧ Hid (∀ j : Nat, j < k → T (row * 9 + (1 + 2 * j)) ≤ bt s (i + j) ∧ bt s (i + j) ≤ T (row * 9 + (2 + 2 * j))) ∧ Drawn0 w wr) (fun v _ => 4 - (intOf v).toNat)
    case atStart => exact ⟨0, rfl, q2_, Lib.hid (fun j hj => by omega), Drawn0.refl _⟩
    case round =>
      obtain ⟨k, rfl, hk, HA, hb⟩ := hrel
      by_cases hkn : (k : Int) < n
      · have k1 : ((k + 1 : Nat) : Int) ≤ n := by omega
        have k2 : 4 - (k + 1) < 4 - k := by omega
        have kk : ∀ j : Nat, j < k + 1 → j ≠ k → j < k := fun j h1 h2 => by omega
        have w1 : wrap64 ((i : Int) + k) = (i : Int) + k := by unfold wrap64; omega
        have w2 : wrap64 (2 * (k : Int)) = 2 * (k : Int) := by unfold wrap64; omega
        have w3 : wrap64 (1 + 2 * (k : Int)) = 1 + 2 * (k : Int) := by unfold wrap64; omega
        have w4 : wrap64 (2 + 2 * (k : Int)) = 2 + 2 * (k : Int) := by unfold wrap64; omega
        have r0 : (0 : Int) ≤ (i : Int) + k := by omega
        have r1 : (i : Int) + k < s.size := by omega
        have r2 : (0 : Int) ≤ 1 + 2 * (k : Int) := by omega
        have r3 : 1 + 2 * (k : Int) < 9 := by omega
        have r4 : (0 : Int) ≤ 2 + 2 * (k : Int) := by omega
        have r5 : 2 + 2 * (k : Int) < 9 := by omega
        have g : i + k < s.size := by omega
        obtain ⟨b, hB⟩ : ∃ b, b = bt s (i + k) := ⟨_, rfl⟩
        have w5 : wrap64 ((s[i + k].toNat : Nat) : Int) = b := by
          have := (s[i + k]).toNat_lt
          rw [hB]
          unfold bt
          rw [dif_pos g]
          unfold wrap64
          omega
        obtain ⟨lo, hlo⟩ : ∃ x, x = T (row * 9 + (1 + 2 * k)) := ⟨_, rfl⟩
        obtain ⟨up, hup⟩ : ∃ x, x = T (row * 9 + (2 + 2 * k)) := ⟨_, rfl⟩
        have hT := HT.out.below hb.below hw
        have y1 : wr.cell? ⟨0, row * 9 + (1 + 2 * k), none⟩ = some (.int .i64 lo) := by rw [hlo]; exact hT _ q2_
        have y2 : wr.cell? ⟨0, row * 9 + (2 + 2 * k), none⟩ = some (.int .i64 up) := by rw [hup]; exact hT _ q2_
        have HB := Lib.hid hb
        have HBT := Lib.hid hB
        have HLO := Lib.hid hlo
        have HUP := Lib.hid hup
        clear hb hB hlo hup hT
        by_cases q1 : b < lo
        · go_wp2
          go_ret
          refine ⟨false, rfl, ⟨fun h => (by cases h), fun h => ?_⟩, HB.out⟩
          have := (h.2 k (by rw [← HN.out]; exact hkn)).1
          rw [← HLO.out, ← HBT.out] at this
          exact absurd q1 (Int.not_lt.2 this)
        · by_cases q2 : up < b
          · go_wp2
            go_ret
            refine ⟨false, rfl, ⟨fun h => (by cases h), fun h => ?_⟩, HB.out⟩
            have := (h.2 k (by rw [← HN.out]; exact hkn)).2
            rw [← HUP.out, ← HBT.out] at this
            exact absurd q2 (Int.not_lt.2 this)
          · have L1 : lo ≤ b := Int.not_lt.1 q1
            have L2 : b ≤ up := Int.not_lt.1 q2
            have K1 := Lib.hid k1
            have K2 := Lib.hid k2
            have KK := Lib.hid kk
            have LL := Lib.hid (And.intro L1 L2)
            clear k1 k2 kk L1 L2
            go_wp2
            clear w0 w1 w2 w3 w4 w5
            go_roundw
            case rel => exact ⟨k + 1, by go_num, K1.out, Lib.hid (fun j hj => by
              by_cases e : j = k
              · subst e
                rw [← HLO.out, ← HUP.out, ← HBT.out]
                exact LL.out
              · exact HA.out j (KK.out j hj e)), HB.out⟩
            case measure =>
              have := K2.out
              simp [intOf]
              omega
      · have HB := Lib.hid hb
        have hke := Lib.hid (show n = (k : Int) by omega)
        clear hb
        go_wp2
        go_ret
        refine ⟨true, rfl, ⟨fun _ => ⟨by rw [← HN.out]; omega, fun j hj => ?_⟩, fun _ => rfl⟩, HB.out⟩
        rw [← HN.out, hke.out] at hj
        exact HA.out j q2_
end Go.Proofs.YtogjljpncdmlkaaDoor.W
end
section
namespace Go.Proofs.YtogjljpncdmlkaaDoor.W
open Go.RowKit Go.Proofs.YtogjljpncdmlkaaDoorW.PrintWords Go.Proofs.YtogjljpncdmlkaaDoorW.PrintLast
set_option linter.unusedVariables false
set_option linter.unusedSimpArgs false
def SeqIs (s : ByteArray) (i : Nat) (n : Int) : Prop := (∃ r : Nat, r < 9 ∧ Fit s i r ∧ (∀ q : Nat, q < r → ¬ Fit s i q) ∧ n = T (r * 9)) ∨ ((∀ q : Nat, q < 9 → ¬ Fit s i q) ∧ n = 0)
def SeqEnd (s : ByteArray) (i : Nat) (w : World) (en : Ending) (w' : World) : Prop := ∃ n : Int, en = .returned (.int .i64 n) ∧ SeqIs s i n ∧ Drawn0 w w'
theorem seq_any (s : ByteArray) (i : Nat) (hi : i ≤ s.size) (hs : s.size ≤ 140737488355328) (w : World) (hT : Tab w) (hw : 0 < w.heap.size) :
    Calls Tryd.prog 37 #[.string s, .int .i64 i] w (SeqEnd s i w) := by
  have HT := Lib.hid hT
  clear hT
  go_enter Tryd.func37, Tryd.ntmps37
  go_wp2
  go_loopw [5] (fun v wr => ∃ r : Nat, v = .int .i64 r ∧ r ≤ 9 ∧ Hid (∀ q : Nat, q < r → ¬ Fit s i q) ∧ Drawn0 w wr) (fun v _ => 9 - (intOf v).toNat)
  case atStart => exact ⟨0, rfl, q2_, Lib.hid (fun q hq => by omega), Drawn0.refl _⟩
  case round =>
    obtain ⟨r, rfl, hr, HA, hb⟩ := hrel
    by_cases hr9 : r < 9
    · have p0 : (0 : Int) ≤ r := by omega
      have p1 : (r : Int) < 9 := by omega
      have hwr : 0 < wr.heap.size := Nat.lt_of_lt_of_le hw hb.below.size
      have HTr := Lib.hid (HT.out.below hb.below hw)
      have HB := Lib.hid hb
      clear hb
      go_wp2_with fail
      refine (fits_any s i r hr9 hi hs _ HTr.out hwr).mono ?_
      rintro en w2 ⟨b, rfl, hf, hb2⟩
      have x0 : w2.cell? ⟨0, r * 9, none⟩ = some (.int .i64 (T (r * 9))) := (HTr.out.below hb2.below hwr) _ q2_
      have HB2 := Lib.hid (HB.out.trans' hb2)
      have HF := Lib.hid hf
      clear hb2 hf
      cases b with
      | true =>
        have F := Lib.hid (HF.out.1 rfl)
        clear HF
        go_wp2
        go_ret
        exact ⟨_, rfl, Or.inl ⟨r, hr9, F.out, HA.out, rfl⟩, HB2.out⟩
      | false =>
        have F0 : ¬ Fit s i r := fun h => by
          have := HF.out.2 h
          cases this
        have F := Lib.hid F0
        clear F0
        clear HF
        go_wp2
        go_roundw
        case rel => exact ⟨r + 1, by go_num, q2_, Lib.hid (fun q hq => by
          by_cases e : q = r
          · subst e; exact F.out
          · exact HA.out q q2_), HB2.out⟩
        case measure => simp [intOf]; omega
    · obtain rfl : r = 9 := by omega
      have HB := Lib.hid hb
      clear hb
      go_wp2
      go_ret
      exact ⟨_, rfl, Or.inr ⟨HA.out, rfl⟩, HB.out⟩
end Go.Proofs.YtogjljpncdmlkaaDoor.W
end
section
namespace Go.Proofs.YtogjljpncdmlkaaDoor.W
open Go.RowKit Go.Proofs.YtogjljpncdmlkaaDoorW.PrintWords Go.Proofs.YtogjljpncdmlkaaDoorW.PrintLast
set_option linter.unusedVariables false
set_option linter.unusedSimpArgs false
theorem T_r : ∀ r : Fin 9, 1 ≤ T (r.val * 9) ∧ T (r.val * 9) ≤ 4 := T_n
theorem SeqIs.bound {s : ByteArray} {i : Nat} {n : Int} (h : SeqIs s i n) (hi : i ≤ s.size) : 0 ≤ n ∧ n ≤ 4 ∧ (i : Int) + n ≤ s.size := by
  rcases h with ⟨r, hr, hf, _, rfl⟩ | ⟨_, rfl⟩
  · have this : 1 ≤ T (r * 9) ∧ T (r * 9) ≤ 4 := T_r ⟨r, hr⟩
    exact ⟨by have := this.1; omega, this.2, hf.1⟩
  · exact ⟨q2_, q2_, q2_⟩
inductive To (s : ByteArray) : Nat → Prop
  | zero : To s 0
  | step {j : Nat} {n : Int} : To s j → SeqIs s j n → n ≠ 0 → To s (j + n.toNat)
def ChkIs (s : ByteArray) (e a : Int) : Prop := ∃ j, To s j ∧ ((e = 0 ∧ j = s.size ∧ a = s.size) ∨ (e = 10 ∧ SeqIs s j 0 ∧ j < s.size ∧ a = j))
def ChkEnd (s : ByteArray) (w : World) (en : Ending) (w' : World) : Prop := ∃ e a : Int, en = .returned (.tuple #[.int .i64 e, .int .i64 a]) ∧ ChkIs s e a ∧ Drawn0 w w'
theorem chk_any (s : ByteArray) (hs : s.size ≤ 140737488355328) (w : World) (hT : Tab w) (hw : 0 < w.heap.size) :
    Calls Tryd.prog 16 #[.string s] w (ChkEnd s w) := by
  have HT := Lib.hid hT
  clear hT
  go_enter Tryd.func16, Tryd.ntmps16
  go_wp2
  go_loopw [4] (fun v wr => ∃ i : Nat, v = .int .i64 i ∧ i ≤ s.size ∧ Hid (To s i) ∧ Drawn0 w wr) (fun v _ => s.size - (intOf v).toNat)
  case atStart => exact ⟨0, rfl, q2_, Lib.hid To.zero, Drawn0.refl _⟩
  case round =>
    obtain ⟨i, rfl, hi, HA, hb⟩ := hrel
    by_cases hil : i < s.size
    · have p1 : (i : Int) < s.size := by omega
      have hwr : 0 < wr.heap.size := Nat.lt_of_lt_of_le hw hb.below.size
      have HTr := Lib.hid (HT.out.below hb.below hw)
      have HB := Lib.hid hb
      clear hb
      go_wp2_with fail
      refine (seq_any s i hi hs _ HTr.out hwr).mono ?_
      rintro en w2 ⟨n, rfl, hn, hb2⟩
      have HB2 := Lib.hid (HB.out.trans' hb2)
      obtain ⟨n0, n4, nb⟩ := hn.bound hi
      have HN := Lib.hid hn
      clear hb2 hn
      by_cases hz : n = 0
      · subst hz
        go_wp2
        go_ret2
        exact ⟨10, i, rfl, ⟨i, HA.out, Or.inr ⟨rfl, HN.out, hil, rfl⟩⟩, HB2.out⟩
      · have hzb : (n == 0) = false := by simpa using hz
        obtain ⟨m, hm⟩ : ∃ m : Nat, (m : Int) = (i : Int) + n := ⟨i + n.toNat, q2_⟩
        have hmi : m = i + n.toNat := by omega
        have m1 : m ≤ s.size := by omega
        have m2 : s.size - m < s.size - i := by omega
        have w0 : wrap64 ((i : Int) + n) = m := by unfold wrap64; omega
        have HM := Lib.hid hmi
        have HMI := Lib.hid hm
        have HM1 := Lib.hid m1
        have HM2 := Lib.hid m2
        have HZ := Lib.hid hz
        clear hm hmi m1 m2 hz
        go_wp2
        clear w0
        go_roundw
        case rel => exact ⟨m, by rw [HMI.out], HM1.out, Lib.hid (by rw [HM.out]; exact To.step HA.out HN.out HZ.out), HB2.out⟩
        case measure =>
          have := HM2.out
          have := HMI.out
          simp [intOf]
          omega
    · obtain rfl : i = s.size := by omega
      have HB := Lib.hid hb
      clear hb
      go_wp2
      go_ret2
      exact ⟨0, s.size, rfl, ⟨s.size, HA.out, Or.inl ⟨rfl, rfl, rfl⟩⟩, HB.out⟩
end Go.Proofs.YtogjljpncdmlkaaDoor.W
end
section
namespace Go.Proofs.YtogjljpncdmlkaaDoor.W
open Go.RowKit Go.Proofs.YtogjljpncdmlkaaDoorW.PrintWords
set_option linter.unusedVariables false
def fitB (s : ByteArray) (i row : Nat) : Bool :=
  decide ((i : Int) + T (row * 9) ≤ s.size) && (List.range (T (row * 9)).toNat).all fun j => decide (T (row * 9 + (1 + 2 * j)) ≤ bt s (i + j)) && decide (bt s (i + j) ≤ T (row * 9 + (2 + 2 * j)))
theorem fitB_iff (s : ByteArray) (i row : Nat) : fitB s i row = true ↔ Fit s i row := by
  unfold fitB Fit
  rw [Bool.and_eq_true, decide_eq_true_iff, List.all_eq_true]
  constructor
  · rintro ⟨h1, h2⟩
    refine ⟨h1, fun j hj => ?_⟩
    have := h2 j (List.mem_range.2 q2_)
    rw [Bool.and_eq_true, decide_eq_true_iff, decide_eq_true_iff] at this
    exact this
  · rintro ⟨h1, h2⟩
    refine ⟨h1, fun j hj => ?_⟩
    have := h2 j (by have := List.mem_range.1 hj; omega)
    rw [Bool.and_eq_true, decide_eq_true_iff, decide_eq_true_iff]
    exact this
def seqFrom (s : ByteArray) (i : Nat) : Nat → Nat → Int
  | _, 0 => 0
  | r, c + 1 => if fitB s i r then T (r * 9) else seqFrom s i (r + 1) c
def seqB (s : ByteArray) (i : Nat) : Int := seqFrom s i 0 9
theorem seqFrom_eq (s : ByteArray) (i : Nat) (n : Int) (h : SeqIs s i n) : ∀ c r, r + c = 9 → (∀ q, q < r → ¬ Fit s i q) → seqFrom s i r c = n := by
  intro c
  induction c with
  | zero =>
    intro r hr hq
    rcases h with ⟨r', h1, h2, _, _⟩ | ⟨_, h2⟩
    · exact absurd h2 (hq r' q2_)
    · exact h2.symm
  | succ c ih =>
    intro r hr hq
    unfold seqFrom
    by_cases hf : fitB s i r = true
    · rw [if_pos hf]
      have hF := (fitB_iff s i r).1 hf
      rcases h with ⟨r', h1, h2, h3, h4⟩ | ⟨h1, _⟩
      · have e : r' = r := by
          by_cases a : r' < r
          · exact absurd h2 (hq r' a)
          · by_cases b : r < r'
            · exact absurd hF (h3 r b)
            · omega
        rw [h4, e]
      · exact absurd hF (h1 r q2_)
    · rw [if_neg hf]
      refine ih (r + 1) q2_ fun q hq' => ?_
      by_cases e : q = r
      · rw [e]; exact fun x => hf ((fitB_iff s i r).2 x)
      · exact hq q q2_
theorem seq_eq {s : ByteArray} {i : Nat} {n : Int} (h : SeqIs s i n) : n = seqB s i := (seqFrom_eq s i n h 9 0 rfl (fun q hq => by omega)).symm
def chkF (s : ByteArray) : Nat → Nat → Int × Int
  | 0, i => (10, i)
  | k + 1, i => if s.size ≤ i then (0, s.size) else if seqB s i = 0 then (10, i) else chkF s k (i + (seqB s i).toNat)
def chkB (s : ByteArray) : Int × Int := chkF s (s.size + 1) 0
theorem chk_step (s : ByteArray) (j k : Nat) (n : Int) (h : SeqIs s j n) (hz : n ≠ 0) : j + n.toNat ≤ s.size ∧ 1 ≤ n.toNat ∧ chkF s (k + 1) j = chkF s k (j + n.toNat) := by
  have e := seq_eq h
  have hb : 1 ≤ n ∧ (j : Int) + n ≤ s.size := by
    rcases h with ⟨r, hr, hf, _, rfl⟩ | ⟨_, h2⟩
    · have : 1 ≤ T (r * 9) ∧ T (r * 9) ≤ 4 := T_r ⟨r, hr⟩
      exact ⟨this.1, hf.1⟩
    · exact absurd h2 hz
  refine ⟨q2_, q2_, ?_⟩
  rw [chkF, if_neg q2_, ← e, if_neg hz]
theorem to_chk {s : ByteArray} {j : Nat} (h : To s j) : j ≤ s.size ∧ ∃ t, t ≤ j ∧ ∀ k, chkF s (k + t) 0 = chkF s k j := by
  induction h with
  | zero => exact ⟨Nat.zero_le _, 0, Nat.le_refl _, fun k => rfl⟩
  | @step j n h1 h2 h3 ih =>
    obtain ⟨_, t, ht, hk⟩ := ih
    have hs := fun k => chk_step s j k n h2 h3
    refine ⟨(hs 0).1, t + 1, by have := (hs 0).2.1; omega, fun k => ?_⟩
    rw [show k + (t + 1) = (k + 1) + t by omega, hk (k + 1), (hs k).2.2]
theorem chk_eq {s : ByteArray} {e a : Int} (h : ChkIs s e a) : (e, a) = chkB s := by
  obtain ⟨j, hj, h⟩ := h
  obtain ⟨hl, t, ht, hk⟩ := to_chk hj
  unfold chkB
  rw [show s.size + 1 = (s.size - t + 1) + t by omega, hk, chkF]
  rcases h with ⟨rfl, h2, rfl⟩ | ⟨rfl, h2, h3, rfl⟩
  · rw [if_pos q2_]
  · rw [if_neg q2_, ← seq_eq h2, if_pos rfl]
theorem check_any (s : ByteArray) (hs : s.size ≤ 140737488355328) (w : World) (hT : Tab w) (hw : 0 < w.heap.size) :
    Calls Tryd.prog 16 #[.string s] w fun en w' => en = .returned (.tuple #[.int .i64 (chkB s).1, .int .i64 (chkB s).2]) ∧ Drawn0 w w' := by
  refine (chk_any s hs w hT hw).mono ?_
  rintro en w' ⟨e, a, rfl, h, hb⟩
  have := chk_eq h
  rw [← this]
  exact ⟨rfl, hb⟩
structure TabW (w : World) : Prop where
  tab : Tab w
  pos : 0 < w.heap.size
theorem TabW.at {w w' : World} (h : TabW w) (hb : Below w.heap.size w w') : TabW w' := ⟨h.tab.below hb h.pos, Nat.lt_of_lt_of_le h.pos hb.size⟩
theorem TabW.of {w : World} (h : laidMetH Tryd.prog [("roster/rosterref01.rows", Rows.laid_roster_rosterref01_rows)] w) : TabW w :=
  have ht : Tab w := fun i hi => table_cell h i hi
  ⟨ht, World.block_lt_of_cell? w _ (ht 0 q19_)⟩
end Go.Proofs.YtogjljpncdmlkaaDoor.W
end
section
namespace Go.Proofs.YtogjljpncdmlkaaDoor.GV
open Go.RowKit Go.Proofs.YtogjljpncdmlkaaDoorW.PrintWords Go.Proofs.YtogjljpncdmlkaaDoorW.PrintLast Go.Proofs.YtogjljpncdmlkaaDoorW.PrintMore
attribute [local go_sem] max2_int min2_int max_two min_two max_three min_three max_four min_four   -- for this text's walks alone
set_option linter.unusedVariables false
set_option linter.unusedSimpArgs false
def rosterlaw22_keysCopy.f (l0 : List (S25)) : Option ((List (S25))) := if ([] : List (S25)).length + l0.length < 3518437208883 then (some (([] : List (S25)) ++ l0)) else (none)
set_option maxHeartbeats 8000000 in
set_option maxRecDepth 100000 in
theorem rosterlaw22_keysCopy.calls (A0 : Option Addr) (c0 : Nat) (l0 : List (S25)) (r : List (S25)) (w : World) (hr0 : Kd.C k25 w A0 l0.length l0) (hc0 : l0.length ≤ c0) (h : rosterlaw22_keysCopy.f l0 = some r) :
  Calls Tryd.prog 5 #[.slice A0 l0.length c0] w fun e w' => ∃ v0_ : Value, e = .returned (v0_) ∧ Kd.R k25 25 w' w.heap.size (fun _ => True) v0_ r ∧ Below w.heap.size w w' := by
 have HR0 := Aside0.mk hr0
 have HC0 := Aside0.mk hc0
 clear hr0 hc0
 have HB := Aside0.mk (Below.refl w.heap.size w)
 have H : (if ([] : List (S25)).length + l0.length < 3518437208883 then (some (([] : List (S25)) ++ l0)) else (none)) = some r := h
 clear h
 by_cases c2 : ([] : List (S25)).length + l0.length < 3518437208883
 ·rw [if_pos c2] at H
  have LMc2 := Aside0.mk c2
  clear c2
  obtain ⟨y101, hy101⟩ : ∃ y_ : List (S25), y_ = (([] : List (S25)) ++ l0) := ⟨_, rfl⟩
  replace H : (some y101) = some r := by first | (rw [hy101]; with_reducible exact H) | (have H2_ := (Option.bind_some _ _).symm.trans H; rw [hy101]; with_reducible exact H2_) | (have H2_ := (Option.bind_some _ _).symm.trans H; with_reducible exact H2_) | with_reducible exact H | (rw [hy101]; exact H) | exact H
  have Ny101 := Aside0.mk hy101
  clear hy101
  obtain rfl := Option.some.inj H
  go_enter Tryd.func5, Tryd.ntmps5
  go_wp2_with (first | ((with_reducible refine gate_builtin (b := .append) (xs := #[.tmp 4, .tmp 5]) rfl ?_); at_builtin; refine Kd.R_append_rows k25 (w0 := w) w.heap.size rfl (.tmp 4) (.tmp 5) 22 25 (.agg #[(.string ⟨#[]⟩), (.string ⟨#[]⟩), (.bool false)]) 40 rfl Tryd.underlying22 info25 rfl q19_ q2_ (.slice none 0 0) ([] : List (S25)) l0 _ _ _ (fun _ => True) (fun _ => False) rfl rfl ?aO ?aR (fun _ _ h => h) (fun _ h => h.elim) ?aF ?aB ?aS ?aL ?_; (case aR => repeat (first | exact HR0.out | (with_reducible refine Kd.C_alloc ?_ _) | (with_reducible refine Kd.C_drewN ?_ _) | (with_reducible refine Kd.C_drew ?_))); (case aB => exact q1_); (case aF => exact (fun _ _ => trivial)); (case aO => exact ((Kd.R_nil _ _ _ _ (fun _ => True)))); (case aS => exact (below_size q1_)); (case aL => have := LMc2.out; omega); intro v102 w3 ho hb hg hat; rw [← Ny101.out] at ho; have n0_ := Aside0.mk (hb); have n1_ := Aside0.mk (ho); clear HB; have HB := n0_; have HO103 := n1_; clear n0_ n1_; clear ho hb hg hat))
  go_ret
  exact ⟨_, q4_, by (with_reducible repeat (first | apply Kd.R_alloc | apply Kd.R_drewN | apply Kd.R_drew)); exact HO103.out, q1_⟩
 ·rw [if_neg c2] at H
  exact absurd H q28_
def rosterref22_made.f (a0 : Int) : Option (Int × Int × Bool × Int × ByteArray) := some (a0, 0, true, 16, (⟨#[]⟩ : ByteArray))
set_option maxHeartbeats 8000000 in
set_option maxRecDepth 100000 in
theorem rosterref22_made.calls (a0 : Int) (r1 : Int) (r2 : Int) (r3 : Bool) (r4 : Int) (r5 : ByteArray) (w : World) (h : rosterref22_made.f a0 = some (r1, r2, r3, r4, r5)) :
  Calls Tryd.prog 17 #[.int .i64 a0] w fun e w' => e = .returned (.agg #[.int .i64 r1, .int .i64 r2, .bool r3, .int .i64 r4, .string r5]) ∧ Below w.heap.size w w' := by
 have hu43 := Tryd.underlying43
 have HB := Aside0.mk (Below.refl w.heap.size w)
 have H : (some (a0, 0, true, 16, (⟨#[]⟩ : ByteArray))) = some (r1, r2, r3, r4, r5) := h
 clear h
 simp only [Option.some.injEq, Prod.mk.injEq] at H
 obtain ⟨rfl, rfl, rfl, rfl, rfl⟩ := H
 go_enter Tryd.func17, Tryd.ntmps17
 go_wp2_with (first | ((with_reducible refine gate_dst (N := 2) rfl ?_); refine box_event ?hg (N := 2) ?hd (cs := #[.int .i64 0, .int .i64 0, .bool false, .int .i64 0, .string (⟨#[]⟩ : ByteArray)]) (t := 43) ?hr ?_; (case hd => rfl); (case hg => rfl); (case hr => first | (go_simp; done) | (go_simp; rfl)); intro gb104 hg w2 hbox hb; have n0_ := Aside0.mk (below_step q1_ hb); have n1_ := Aside0.mk (hbox); have n2_ := Aside0.mk ((by rw [hg]; exact (below_size q1_) : w.heap.size ≤ gb104)); have n3_ := Aside0.mk ((by rw [hg]; exact (below_size q1_) : w.heap.size ≤ gb104)); clear HB; have HB := n0_; have BK104 := n1_; have GW104 := n2_; have GE104 := n3_; clear n0_ n1_ n2_ n3_; clear hb hbox hg; obtain ⟨hcz3_0, hcz3_1, hcz3_2, hcz3_3, hcz3_4⟩ := cells5_ BK104.out; obtain ⟨hfz3_0, hfz3_1, hfz3_2, hfz3_3, hfz3_4⟩ := frz5_ BK104.out))
 refine bodyPost_ret (results_cell_row rfl _ _ gb104 43 #[.int .i64 a0, .int .i64 0, .bool true, .int .i64 16, .string (⟨#[]⟩ : ByteArray)] (0, 0) _ rfl (by (with_reducible repeat (first | refine blk_drewN ?_ _ | refine blk_drew ?_ | refine blk_alloc ?_ _)); exact put5_ (by (with_reducible repeat (first | refine blk_drewN ?_ _ | refine blk_drew ?_ | refine blk_alloc ?_ _)); exact BK104.out)) Tryd.underlying43 rfl q9_) rfl ?_
 exact ⟨q4_, by repeat (first | (with_reducible first | exact HB.out | apply below_alloc | apply pw_below_drewN | apply below_drew1 | refine below_set ?_ GE104.out) | exact HB.out)⟩
def rosterref01_Check.f (a0 : ByteArray) : Option (Int × Int) := if a0.size ≤ 140737488355328 then some (W.chkB a0) else none
theorem rosterref01_Check.calls (a0 : ByteArray) (r1 : Int) (r2 : Int) (w : World) (h : rosterref01_Check.f a0 = some (r1, r2)) (hT : W.TabW w) :
  Calls Tryd.prog 16 #[.string a0] w fun e w' => e = .returned (.tuple #[.int .i64 r1, .int .i64 r2]) ∧ Drawn0 w w' := by
 unfold rosterref01_Check.f at h
 by_cases c : a0.size ≤ 140737488355328
 ·rw [if_pos c] at h
  have e := Option.some.inj h
  have hq := W.check_any a0 c w hT.tab hT.pos
  rw [e] at hq
  exact hq
 ·rw [if_neg c] at h
  cases h
def rosterref22_isUTF8.f (a0 : ByteArray) : Option (Bool) := (rosterref01_Check.f a0).bind fun bt105 => (some (bt105.1 == 0))
set_option maxHeartbeats 8000000 in
set_option maxRecDepth 100000 in
theorem rosterref22_isUTF8.calls (a0 : ByteArray) (r : Bool) (w : World) (h : rosterref22_isUTF8.f a0 = some r) (hT : W.TabW w) :
  Calls Tryd.prog 18 #[.string a0] w fun e w' => e = .returned (.bool r) ∧ Drawn0 w w' := by
 have HTB := Aside0.mk hT
 clear hT
 have H : ((rosterref01_Check.f a0).bind fun bt105 => (some (bt105.1 == 0))) = some r := h
 clear h
 replace H := Option.bind_eq_some_iff.mp H
 obtain ⟨⟨t105, t106⟩, A20, H⟩ := H
 replace H : (some (t105 == 0)) = some r := H
 have A2 := Aside0.mk A20
 clear A20
 obtain rfl := Option.some.inj H
 go_enter Tryd.func18, Tryd.ntmps18
 go_wp2_with (first | ((with_reducible refine gate_callee (f := 16) rfl ?_); refine goesL_ (some 7) rfl rfl Tryd.func16 q9_ rfl #[.string a0] rfl q84_ ?_; (with_reducible refine (rosterref01_Check.calls a0 t105 t106 _ A2.out ?sideT).mono ?_); (case sideT => exact HTB.out.at q86_); rintro e w' ⟨rfl, ⟨nd, rfl⟩⟩; refine ⟨_, rfl, ?_⟩))
 go_ret
 exact ⟨q3_, q30_⟩
def rosterref22_leaf.f (a0 : Int) (a1 : Int) (a2 : Int) (a3 : ByteArray) : Option (Int × Int × Bool × Int × ByteArray) := some (a0, a1, false, a2, a3)
set_option maxHeartbeats 8000000 in
set_option maxRecDepth 100000 in
theorem rosterref22_leaf.calls (a0 : Int) (a1 : Int) (a2 : Int) (a3 : ByteArray) (r1 : Int) (r2 : Int) (r3 : Bool) (r4 : Int) (r5 : ByteArray) (w : World) (h : rosterref22_leaf.f a0 a1 a2 a3 = some (r1, r2, r3, r4, r5)) :
  Calls Tryd.prog 19 #[.int .i64 a0, .int .i64 a1, .int .i64 a2, .string a3] w fun e w' => e = .returned (.agg #[.int .i64 r1, .int .i64 r2, .bool r3, .int .i64 r4, .string r5]) ∧ Below w.heap.size w w' := by
 have hu43 := Tryd.underlying43
 have HB := Aside0.mk (Below.refl w.heap.size w)
 have H : (some (a0, a1, false, a2, a3)) = some (r1, r2, r3, r4, r5) := h
 clear h
 simp only [Option.some.injEq, Prod.mk.injEq] at H
 obtain ⟨rfl, rfl, rfl, rfl, rfl⟩ := H
 go_enter Tryd.func19, Tryd.ntmps19
 go_wp2_with (first | ((with_reducible refine gate_dst (N := 8) rfl ?_); refine box_event ?hg (N := 8) ?hd (cs := #[.int .i64 0, .int .i64 0, .bool false, .int .i64 0, .string (⟨#[]⟩ : ByteArray)]) (t := 43) ?hr ?_; (case hd => rfl); (case hg => rfl); (case hr => first | (go_simp; done) | (go_simp; rfl)); intro gb107 hg w5 hbox hb; have n0_ := Aside0.mk (below_step q1_ hb); have n1_ := Aside0.mk (hbox); have n2_ := Aside0.mk ((by rw [hg]; exact (below_size q1_) : w.heap.size ≤ gb107)); have n3_ := Aside0.mk ((by rw [hg]; exact (below_size q1_) : w.heap.size ≤ gb107)); clear HB; have HB := n0_; have BK107 := n1_; have GW107 := n2_; have GE107 := n3_; clear n0_ n1_ n2_ n3_; clear hb hbox hg; obtain ⟨hcz6_0, hcz6_1, hcz6_2, hcz6_3, hcz6_4⟩ := cells5_ BK107.out; obtain ⟨hfz6_0, hfz6_1, hfz6_2, hfz6_3, hfz6_4⟩ := frz5_ BK107.out))
 refine bodyPost_ret (results_cell_row rfl _ _ gb107 43 #[.int .i64 a0, .int .i64 a1, .bool false, .int .i64 a2, .string a3] (0, 0) _ rfl (by (with_reducible repeat (first | refine blk_drewN ?_ _ | refine blk_drew ?_ | refine blk_alloc ?_ _)); exact put5_ q70_) Tryd.underlying43 rfl q9_) rfl ?_
 exact ⟨q4_, q22_⟩
def rosterref02_Write.dn (x : S43) : W.NodeT := (x.f0, x.f1, x.f2, x.f3, x.f4)
def rosterref02_Write.f (l0 : List S43) : Option (ByteArray × Int × Int) :=
 if (l0.map rosterref02_Write.dn).length ≤ 100000000 ∧ W.wt (l0.map rosterref02_Write.dn) 0 (l0.map rosterref02_Write.dn).length ≤ 134217728 then some ((W.writeS (l0.map rosterref02_Write.dn)).1, (W.writeS (l0.map rosterref02_Write.dn)).2.1, (W.writeS (l0.map rosterref02_Write.dn)).2.2) else none
theorem rosterref02_Write.calls (A0 : Option Addr) (c0 : Nat) (l0 : List S43) (r1 : ByteArray) (r2 : Int) (r3 : Int) (w : World) (hr0 : Kd.C k43 w A0 l0.length l0) (hc0 : l0.length ≤ c0) (h : rosterref02_Write.f l0 = some (r1, r2, r3)) :
  Calls Tryd.prog 20 #[.slice A0 l0.length c0] w fun e w' => e = .returned (.tuple #[.string r1, .int .i64 r2, .int .i64 r3]) ∧ Below w.heap.size w w' := by
 unfold rosterref02_Write.f at h
 by_cases c : (l0.map rosterref02_Write.dn).length ≤ 100000000 ∧ W.wt (l0.map rosterref02_Write.dn) 0 (l0.map rosterref02_Write.dn).length ≤ 134217728
 ·rw [if_pos c] at h
  simp only [Option.some.injEq, Prod.mk.injEq] at h
  obtain ⟨rfl, rfl, rfl⟩ := h
  have hl : (l0.map rosterref02_Write.dn).length = l0.length := List.length_map _
  have hC := W.C_iso (d := W.kNode) (f := rosterref02_Write.dn) hr0
  rw [← hl] at hC hc0 ⊢
  exact W.rwrite_any A0 c0 _ w hC hc0 c
 ·rw [if_neg c] at h
  cases h
end Go.Proofs.YtogjljpncdmlkaaDoor.GV
end
