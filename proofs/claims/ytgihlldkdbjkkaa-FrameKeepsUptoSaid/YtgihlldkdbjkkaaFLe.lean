/- Walk of frame.length: n length bytes behind the first two say a number; those that are missing count as 0. -/
import Derived.Test.YtgihlldkdbjkkaaProg
import Derived.Test.YtgihlldkdbjkkaaMa
import Derived.WalkLawsBesides
import Derived.WalkSpells
import Derived.RegionTactic
import Derived.ChangeAlike
import Derived.BigRegion
import Derived.IntWalk
import Derived.Lib.Hide
import Derived.Outline
namespace Go.Proofs.Ytgihlldkdbjkkaa.W
open Go.RowKit
set_option linter.unusedVariables false
set_option linter.unusedSimpArgs false

theorem next_in (B gv ga gb : Nat) (s : ByteArray) (v a : Int) (W w : World) (hB : Below B W w) (h1 : B ≤ gv) (h2 : B ≤ ga) (n1 : gv ≠ ga) (n2 : gb ≠ gv) (n3 : gb ≠ ga) (hs : s.size ≤ 140737488351232)
    (v0 : 0 ≤ v) (v1 : v < 281474976710656) (a0 : 0 ≤ a) (a1 : a < (s.size : Int)) (aV : At w gv 3 #[.int .i64 v]) (aA : At w ga 3 #[.int .i64 a]) (aB : At w gb 9 #[.string s]) :
    Calls Try.prog 13 #[.pointer (some ⟨gv, 0, none⟩), .pointer (some ⟨ga, 0, none⟩), .pointer (some ⟨gb, 0, none⟩)] w fun en w' => (∃ u, en = .returned u) ∧
      Below B W w' ∧ At w' gv 3 #[.int .i64 (v * 256 + byt s a)] ∧ At w' ga 3 #[.int .i64 (a + 1)] ∧ At w' gb 9 #[.string s] := by
  have c0 := (aV.cell 0).trans rfl
  have c1 := (aA.cell 0).trans rfl
  have c2 := (aB.cell 0).trans rfl
  have f0 := aV.free 0
  have f1 := aA.free 0
  have hx : a.toNat < s.size := by omega
  have hb := byt_range s a
  have hbe := byt_at s a hx
  have l0 := aV.lt
  have l1 := aA.lt
  have l2 := aB.lt
  have hor := or_byte v (byt s a) v0 v1 hb.1 hb.2
  go_enter Try.func13, Try.ntmps13
  go_wp2_with fail
  have bV : At (w.setCell ⟨gv, 0, none⟩ (.int .i64 (v * 256))) gv 3 #[.int .i64 (v * 256)] := aV.set 0 _
  have bA := aA.far (p := ⟨gv, 0, none⟩) (fun e => n1 e.symm) (.int .i64 (v * 256))
  have bB := aB.far (p := ⟨gv, 0, none⟩) n2 (.int .i64 (v * 256))
  have hB2 := hB.setCell (p := ⟨gv, 0, none⟩) h1 (.int .i64 (v * 256))
  clear c0 c1 c2 f0 f1 l0 l1 l2 aV aA aB hB
  generalize w.setCell ⟨gv, 0, none⟩ (.int .i64 (v * 256)) = w2 at bV bA bB hB2 ⊢
  have c0 := (bV.cell 0).trans rfl
  have c1 := (bA.cell 0).trans rfl
  have c2 := (bB.cell 0).trans rfl
  have f0 := bV.free 0
  have f1 := bA.free 0
  go_region
  go_wp2
  have eV : At ((w2.setCell ⟨gv, 0, none⟩ (.int .i64 (v * 256 + byt s a))).setCell ⟨ga, 0, none⟩ (.int .i64 (a + 1))).drew gv 3 #[.int .i64 (v * 256 + byt s a)] :=
    ((bV.set 0 _).far n1 _).drew
  have eA : At ((w2.setCell ⟨gv, 0, none⟩ (.int .i64 (v * 256 + byt s a))).setCell ⟨ga, 0, none⟩ (.int .i64 (a + 1))).drew ga 3 #[.int .i64 (a + 1)] :=
    ((bA.far (fun e => n1 e.symm) _).set 0 _).drew
  go_end0
  exact ⟨⟨_, rfl⟩, ((hB2.setCell h1 _).setCell h2 _).drew, eV, eA, ((bB.far n2 _).far n3 _).drew⟩
theorem next_out (B gv ga gb : Nat) (s : ByteArray) (v a : Int) (W w : World) (hB : Below B W w) (h1 : B ≤ gv) (h2 : B ≤ ga) (n1 : gv ≠ ga) (n2 : gb ≠ gv) (n3 : gb ≠ ga) (hs : s.size ≤ 140737488351232)
    (v0 : 0 ≤ v) (v1 : v < 281474976710656) (a0 : 0 ≤ a) (a1 : (s.size : Int) ≤ a) (a2 : a < 1000) (aV : At w gv 3 #[.int .i64 v]) (aA : At w ga 3 #[.int .i64 a]) (aB : At w gb 9 #[.string s]) :
    Calls Try.prog 13 #[.pointer (some ⟨gv, 0, none⟩), .pointer (some ⟨ga, 0, none⟩), .pointer (some ⟨gb, 0, none⟩)] w fun en w' => (∃ u, en = .returned u) ∧
      Below B W w' ∧ At w' gv 3 #[.int .i64 (v * 256 + byt s a)] ∧ At w' ga 3 #[.int .i64 (a + 1)] ∧ At w' gb 9 #[.string s] := by
  have c0 := (aV.cell 0).trans rfl
  have c1 := (aA.cell 0).trans rfl
  have c2 := (aB.cell 0).trans rfl
  have f0 := aV.free 0
  have f1 := aA.free 0
  have hz : byt s a = 0 := by unfold byt; rw [dif_neg (by omega)]
  have l0 := aV.lt
  have l1 := aA.lt
  have l2 := aB.lt
  go_enter Try.func13, Try.ntmps13
  go_wp2_with fail
  rw [hz, Int.add_zero]
  have eV : At ((w.setCell ⟨gv, 0, none⟩ (.int .i64 (v * 256))).setCell ⟨ga, 0, none⟩ (.int .i64 (a + 1))) gv 3 #[.int .i64 (v * 256)] :=
    (aV.set 0 _).far n1 _
  have eA : At ((w.setCell ⟨gv, 0, none⟩ (.int .i64 (v * 256))).setCell ⟨ga, 0, none⟩ (.int .i64 (a + 1))) ga 3 #[.int .i64 (a + 1)] :=
    (aA.far (fun e => n1 e.symm) _).set 0 _
  go_end0
  exact ⟨⟨_, rfl⟩, (hB.setCell h1 _).setCell h2 _, eV, eA, (aB.far n2 _).far n3 _⟩

/-- One step of the count: the next byte (0, if it is not there) behind the others. -/
theorem next_any (B gv ga gb : Nat) (s : ByteArray) (v a : Int) (W w : World) (hB : Below B W w) (h1 : B ≤ gv) (h2 : B ≤ ga) (n1 : gv ≠ ga) (n2 : gb ≠ gv) (n3 : gb ≠ ga) (hs : s.size ≤ 140737488351232)
    (v0 : 0 ≤ v) (v1 : v < 281474976710656) (a0 : 0 ≤ a) (a2 : a < 1000) (aV : At w gv 3 #[.int .i64 v]) (aA : At w ga 3 #[.int .i64 a]) (aB : At w gb 9 #[.string s]) :
    Calls Try.prog 13 #[.pointer (some ⟨gv, 0, none⟩), .pointer (some ⟨ga, 0, none⟩), .pointer (some ⟨gb, 0, none⟩)] w fun en w' => (∃ u, en = .returned u) ∧
      Below B W w' ∧ At w' gv 3 #[.int .i64 (v * 256 + byt s a)] ∧ At w' ga 3 #[.int .i64 (a + 1)] ∧ At w' gb 9 #[.string s] := by
  by_cases h : a < (s.size : Int)
  · exact next_in B gv ga gb s v a W w hB h1 h2 n1 n2 n3 hs v0 v1 a0 h aV aA aB
  · exact next_out B gv ga gb s v a W w hB h1 h2 n1 n2 n3 hs v0 v1 a0 (by omega) a2 aV aA aB

set_option maxRecDepth 100000 in
theorem flength_1 (s : ByteArray) (w : World) (hs : s.size ≤ 140737488351232) : Calls Try.prog 12 #[.string s, .int .i64 1] w fun en w' => en = .returned (.int .i64 (numAt s 2 1 0)) ∧ Below w.heap.size w w' := by
  have r0 := byt_range s 2
  obtain ⟨x1, e1⟩ : ∃ x, x = 0 * 256 + byt s 2 := ⟨_, rfl⟩
  have b1 : 0 ≤ x1 ∧ x1 < 256 := by omega
  have HR : Hid (numAt s 2 1 0 = x1) := by unfold Hid; simp only [numAt]; rw [e1]; first | done | rfl
  have E1 := Lib.hid e1
  clear e1 r0
  go_enter Try.func12, Try.ntmps12
  go_wp2_with fail
  refine gen3 (G := fun W => Calls _ _ _ W _) fun W hB hz k1 k2 k3 => ?_
  refine (next_any w.heap.size (w.heap.size + 1 + 1) (w.heap.size + 1) w.heap.size s 0 2 w W hB (by omega) (by omega) (by omega) (by omega) (by omega) hs (by omega) (by omega) (by omega) (by omega) k3 k2 k1).mono ?_
  rintro en w1 ⟨⟨u1, rfl⟩, B1, V1, A1, S1⟩
  rw [← E1.out] at V1
  replace A1 : At w1 (w.heap.size + 1) 3 #[.int .i64 3] := A1
  clear k1 k2 k3 hB hz
  have c0 := (V1.cell 0).trans rfl
  go_wp2_with fail
  go_ret
  exact ⟨by rw [HR.out]; rfl, B1⟩
set_option maxRecDepth 100000 in
theorem flength_2 (s : ByteArray) (w : World) (hs : s.size ≤ 140737488351232) : Calls Try.prog 12 #[.string s, .int .i64 2] w fun en w' => en = .returned (.int .i64 (numAt s 2 2 0)) ∧ Below w.heap.size w w' := by
  have r0 := byt_range s 2
  have r1 := byt_range s 3
  obtain ⟨x1, e1⟩ : ∃ x, x = 0 * 256 + byt s 2 := ⟨_, rfl⟩
  obtain ⟨x2, e2⟩ : ∃ x, x = x1 * 256 + byt s 3 := ⟨_, rfl⟩
  have b1 : 0 ≤ x1 ∧ x1 < 256 := by omega
  have b2 : 0 ≤ x2 ∧ x2 < 65536 := by omega
  have HR : Hid (numAt s 2 2 0 = x2) := by unfold Hid; simp only [numAt]; rw [e2, e1]; first | done | rfl
  have E1 := Lib.hid e1
  have E2 := Lib.hid e2
  clear e1 e2 r0 r1
  go_enter Try.func12, Try.ntmps12
  go_wp2_with fail
  refine gen3 (G := fun W => Calls _ _ _ W _) fun W hB hz k1 k2 k3 => ?_
  refine (next_any w.heap.size (w.heap.size + 1 + 1) (w.heap.size + 1) w.heap.size s 0 2 w W hB (by omega) (by omega) (by omega) (by omega) (by omega) hs (by omega) (by omega) (by omega) (by omega) k3 k2 k1).mono ?_
  rintro en w1 ⟨⟨u1, rfl⟩, B1, V1, A1, S1⟩
  rw [← E1.out] at V1
  replace A1 : At w1 (w.heap.size + 1) 3 #[.int .i64 3] := A1
  clear k1 k2 k3 hB hz
  go_wp2_with fail
  refine (next_any w.heap.size (w.heap.size + 1 + 1) (w.heap.size + 1) w.heap.size s x1 3 w w1 B1 (by omega) (by omega) (by omega) (by omega) (by omega) hs (by omega) (by omega) (by omega) (by omega) V1 A1 S1).mono ?_
  rintro en w2 ⟨⟨u2, rfl⟩, B2, V2, A2, S2⟩
  rw [← E2.out] at V2
  replace A2 : At w2 (w.heap.size + 1) 3 #[.int .i64 4] := A2
  clear B1 V1 A1 S1
  have c0 := (V2.cell 0).trans rfl
  go_wp2_with fail
  go_ret
  exact ⟨by rw [HR.out]; rfl, B2⟩
set_option maxRecDepth 100000 in
theorem flength_3 (s : ByteArray) (w : World) (hs : s.size ≤ 140737488351232) : Calls Try.prog 12 #[.string s, .int .i64 3] w fun en w' => en = .returned (.int .i64 (numAt s 2 3 0)) ∧ Below w.heap.size w w' := by
  have r0 := byt_range s 2
  have r1 := byt_range s 3
  have r2 := byt_range s 4
  obtain ⟨x1, e1⟩ : ∃ x, x = 0 * 256 + byt s 2 := ⟨_, rfl⟩
  obtain ⟨x2, e2⟩ : ∃ x, x = x1 * 256 + byt s 3 := ⟨_, rfl⟩
  obtain ⟨x3, e3⟩ : ∃ x, x = x2 * 256 + byt s 4 := ⟨_, rfl⟩
  have b1 : 0 ≤ x1 ∧ x1 < 256 := by omega
  have b2 : 0 ≤ x2 ∧ x2 < 65536 := by omega
  have b3 : 0 ≤ x3 ∧ x3 < 16777216 := by omega
  have HR : Hid (numAt s 2 3 0 = x3) := by unfold Hid; simp only [numAt]; rw [e3, e2, e1]; first | done | rfl
  have E1 := Lib.hid e1
  have E2 := Lib.hid e2
  have E3 := Lib.hid e3
  clear e1 e2 e3 r0 r1 r2
  go_enter Try.func12, Try.ntmps12
  go_wp2_with fail
  refine gen3 (G := fun W => Calls _ _ _ W _) fun W hB hz k1 k2 k3 => ?_
  refine (next_any w.heap.size (w.heap.size + 1 + 1) (w.heap.size + 1) w.heap.size s 0 2 w W hB (by omega) (by omega) (by omega) (by omega) (by omega) hs (by omega) (by omega) (by omega) (by omega) k3 k2 k1).mono ?_
  rintro en w1 ⟨⟨u1, rfl⟩, B1, V1, A1, S1⟩
  rw [← E1.out] at V1
  replace A1 : At w1 (w.heap.size + 1) 3 #[.int .i64 3] := A1
  clear k1 k2 k3 hB hz
  go_wp2_with fail
  refine (next_any w.heap.size (w.heap.size + 1 + 1) (w.heap.size + 1) w.heap.size s x1 3 w w1 B1 (by omega) (by omega) (by omega) (by omega) (by omega) hs (by omega) (by omega) (by omega) (by omega) V1 A1 S1).mono ?_
  rintro en w2 ⟨⟨u2, rfl⟩, B2, V2, A2, S2⟩
  rw [← E2.out] at V2
  replace A2 : At w2 (w.heap.size + 1) 3 #[.int .i64 4] := A2
  clear B1 V1 A1 S1
  go_wp2_with fail
  refine (next_any w.heap.size (w.heap.size + 1 + 1) (w.heap.size + 1) w.heap.size s x2 4 w w2 B2 (by omega) (by omega) (by omega) (by omega) (by omega) hs (by omega) (by omega) (by omega) (by omega) V2 A2 S2).mono ?_
  rintro en w3 ⟨⟨u3, rfl⟩, B3, V3, A3, S3⟩
  rw [← E3.out] at V3
  replace A3 : At w3 (w.heap.size + 1) 3 #[.int .i64 5] := A3
  clear B2 V2 A2 S2
  have c0 := (V3.cell 0).trans rfl
  go_wp2_with fail
  go_ret
  exact ⟨by rw [HR.out]; rfl, B3⟩
set_option maxRecDepth 100000 in
theorem flength_4 (s : ByteArray) (w : World) (hs : s.size ≤ 140737488351232) : Calls Try.prog 12 #[.string s, .int .i64 4] w fun en w' => en = .returned (.int .i64 (numAt s 2 4 0)) ∧ Below w.heap.size w w' := by
  have r0 := byt_range s 2
  have r1 := byt_range s 3
  have r2 := byt_range s 4
  have r3 := byt_range s 5
  obtain ⟨x1, e1⟩ : ∃ x, x = 0 * 256 + byt s 2 := ⟨_, rfl⟩
  obtain ⟨x2, e2⟩ : ∃ x, x = x1 * 256 + byt s 3 := ⟨_, rfl⟩
  obtain ⟨x3, e3⟩ : ∃ x, x = x2 * 256 + byt s 4 := ⟨_, rfl⟩
  obtain ⟨x4, e4⟩ : ∃ x, x = x3 * 256 + byt s 5 := ⟨_, rfl⟩
  have b1 : 0 ≤ x1 ∧ x1 < 256 := by omega
  have b2 : 0 ≤ x2 ∧ x2 < 65536 := by omega
  have b3 : 0 ≤ x3 ∧ x3 < 16777216 := by omega
  have b4 : 0 ≤ x4 ∧ x4 < 4294967296 := by omega
  have HR : Hid (numAt s 2 4 0 = x4) := by unfold Hid; simp only [numAt]; rw [e4, e3, e2, e1]; first | done | rfl
  have E1 := Lib.hid e1
  have E2 := Lib.hid e2
  have E3 := Lib.hid e3
  have E4 := Lib.hid e4
  clear e1 e2 e3 e4 r0 r1 r2 r3
  go_enter Try.func12, Try.ntmps12
  go_wp2_with fail
  refine gen3 (G := fun W => Calls _ _ _ W _) fun W hB hz k1 k2 k3 => ?_
  refine (next_any w.heap.size (w.heap.size + 1 + 1) (w.heap.size + 1) w.heap.size s 0 2 w W hB (by omega) (by omega) (by omega) (by omega) (by omega) hs (by omega) (by omega) (by omega) (by omega) k3 k2 k1).mono ?_
  rintro en w1 ⟨⟨u1, rfl⟩, B1, V1, A1, S1⟩
  rw [← E1.out] at V1
  replace A1 : At w1 (w.heap.size + 1) 3 #[.int .i64 3] := A1
  clear k1 k2 k3 hB hz
  go_wp2_with fail
  refine (next_any w.heap.size (w.heap.size + 1 + 1) (w.heap.size + 1) w.heap.size s x1 3 w w1 B1 (by omega) (by omega) (by omega) (by omega) (by omega) hs (by omega) (by omega) (by omega) (by omega) V1 A1 S1).mono ?_
  rintro en w2 ⟨⟨u2, rfl⟩, B2, V2, A2, S2⟩
  rw [← E2.out] at V2
  replace A2 : At w2 (w.heap.size + 1) 3 #[.int .i64 4] := A2
  clear B1 V1 A1 S1
  go_wp2_with fail
  refine (next_any w.heap.size (w.heap.size + 1 + 1) (w.heap.size + 1) w.heap.size s x2 4 w w2 B2 (by omega) (by omega) (by omega) (by omega) (by omega) hs (by omega) (by omega) (by omega) (by omega) V2 A2 S2).mono ?_
  rintro en w3 ⟨⟨u3, rfl⟩, B3, V3, A3, S3⟩
  rw [← E3.out] at V3
  replace A3 : At w3 (w.heap.size + 1) 3 #[.int .i64 5] := A3
  clear B2 V2 A2 S2
  go_wp2_with fail
  refine (next_any w.heap.size (w.heap.size + 1 + 1) (w.heap.size + 1) w.heap.size s x3 5 w w3 B3 (by omega) (by omega) (by omega) (by omega) (by omega) hs (by omega) (by omega) (by omega) (by omega) V3 A3 S3).mono ?_
  rintro en w4 ⟨⟨u4, rfl⟩, B4, V4, A4, S4⟩
  rw [← E4.out] at V4
  replace A4 : At w4 (w.heap.size + 1) 3 #[.int .i64 6] := A4
  clear B3 V3 A3 S3
  have c0 := (V4.cell 0).trans rfl
  go_wp2_with fail
  go_ret
  exact ⟨by rw [HR.out]; rfl, B4⟩

/-- THE LENGTH BYTES behind the first two. -/
theorem flength_any (s : ByteArray) (n : Int) (w : World) (hs : s.size ≤ 140737488351232) (h1 : 1 ≤ n) (h4 : n ≤ 4) :
    Calls Try.prog 12 #[.string s, .int .i64 n] w fun en w' => en = .returned (.int .i64 (numAt s 2 n.toNat 0)) ∧ Below w.heap.size w w' := by
  rcases (show n = 1 ∨ n = 2 ∨ n = 3 ∨ n = 4 by omega) with rfl | rfl | rfl | rfl
  · exact flength_1 s w hs
  · exact flength_2 s w hs
  · exact flength_3 s w hs
  · exact flength_4 s w hs
end Go.Proofs.Ytgihlldkdbjkkaa.W
