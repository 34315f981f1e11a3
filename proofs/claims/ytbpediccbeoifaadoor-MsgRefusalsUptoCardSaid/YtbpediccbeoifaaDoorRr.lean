/- The document's refusals: walked. -/
import Derived.Test.YtbpediccbeoifaaDoorRf
import Derived.Laws.Tables
import Derived.Laws.Rows
import Derived.Laws.CopyOwn
namespace Go.Proofs.YtbpediccbeoifaaDoor.W
open Go.RowKit Go.Proofs.YtbpediccbeoifaaDoorW.PrintWords Go.Proofs.YtbpediccbeoifaaDoorW.PrintLast Go.Proofs.YtbpediccbeoifaaDoor.GN
set_option linter.unusedVariables false
set_option linter.unusedSimpArgs false
theorem kinds_has (n : Nat) (h : n < 10) : (0 ≤ kindsL.getD n 0 ↔ hasTo (n : Int) = true) ∧ (hasTo (n : Int) = true → kindsL.getD n 0 = toOf (n : Int)) := by
  match n, h with
  | 0, _ => decide
  | 1, _ => decide
  | 2, _ => decide
  | 3, _ => decide
  | 4, _ => decide
  | 5, _ => decide
  | 6, _ => decide
  | 7, _ => decide
  | 8, _ => decide
  | 9, _ => decide
theorem fin10 {w wr : World} {g : Nat} (h : At wr g 42 #[.int .i64 0, .int .i64 0, .int .i64 0, .string ⟨#[]⟩, .string ⟨#[]⟩, .string ⟨#[]⟩, .slice none 0 0, .string ⟨#[]⟩, .bool false, .slice none 0 0]) (hb : Below w.heap.size w wr) (hg : w.heap.size ≤ g) (id kk cd : Int) (mt tx : ByteArray) : At ((((((((((wr.setCell ⟨g, 0, none⟩ (.int .i64 id)).setCell ⟨g, 1, none⟩ (.int .i64 kk)).setCell ⟨g, 2, none⟩ (.int .i64 cd)).setCell ⟨g, 3, none⟩ (.string mt)).setCell ⟨g, 4, none⟩ (.string tx)).setCell ⟨g, 5, none⟩ (.string ⟨#[]⟩)).setCell ⟨g, 6, none⟩ (.slice none 0 0)).setCell ⟨g, 7, none⟩ (.string ⟨#[]⟩)).setCell ⟨g, 8, none⟩ (.bool false)).setCell ⟨g, 9, none⟩ (.slice none 0 0)) g 42 #[.int .i64 id, .int .i64 kk, .int .i64 cd, .string mt, .string tx, .string ⟨#[]⟩, .slice none 0 0, .string ⟨#[]⟩, .bool false, .slice none 0 0] ∧ Below w.heap.size w ((((((((((wr.setCell ⟨g, 0, none⟩ (.int .i64 id)).setCell ⟨g, 1, none⟩ (.int .i64 kk)).setCell ⟨g, 2, none⟩ (.int .i64 cd)).setCell ⟨g, 3, none⟩ (.string mt)).setCell ⟨g, 4, none⟩ (.string tx)).setCell ⟨g, 5, none⟩ (.string ⟨#[]⟩)).setCell ⟨g, 6, none⟩ (.slice none 0 0)).setCell ⟨g, 7, none⟩ (.string ⟨#[]⟩)).setCell ⟨g, 8, none⟩ (.bool false)).setCell ⟨g, 9, none⟩ (.slice none 0 0)) := by
  refine ⟨?_, ?_⟩
  · have h1 := ((((((((((h.set 0 (.int .i64 id)).set 1 (.int .i64 kk)).set 2 (.int .i64 cd)).set 3 (.string mt)).set 4 (.string tx)).set 5 (.string ⟨#[]⟩)).set 6 (.slice none 0 0)).set 7 (.string ⟨#[]⟩)).set 8 (.bool false)).set 9 (.slice none 0 0))
    exact h1.eq (by simp)
  · exact ((((((((((hb.setCell (by dsimp only; omega) _).setCell (by dsimp only; omega) _).setCell (by dsimp only; omega) _).setCell (by dsimp only; omega) _).setCell (by dsimp only; omega) _).setCell (by dsimp only; omega) _).setCell (by dsimp only; omega) _).setCell (by dsimp only; omega) _).setCell (by dsimp only; omega) _).setCell (by dsimp only; omega) _)
theorem fin4 {wr : World} {g : Nat} (h : At wr g 42 #[.int .i64 0, .int .i64 0, .int .i64 0, .string ⟨#[]⟩, .string ⟨#[]⟩, .string ⟨#[]⟩, .slice none 0 0, .string ⟨#[]⟩, .bool false, .slice none 0 0]) (id kk cd : Int) (tx : ByteArray) : At ((((wr.setCell ⟨g, 0, none⟩ (.int .i64 id)).setCell ⟨g, 1, none⟩ (.int .i64 kk)).setCell ⟨g, 2, none⟩ (.int .i64 cd)).setCell ⟨g, 4, none⟩ (.string tx)) g 42 #[.int .i64 id, .int .i64 kk, .int .i64 cd, .string ⟨#[]⟩, .string tx, .string ⟨#[]⟩, .slice none 0 0, .string ⟨#[]⟩, .bool false, .slice none 0 0] := by
  have h1 := (((h.set 0 (.int .i64 id)).set 1 (.int .i64 kk)).set 2 (.int .i64 cd)).set 4 (.string tx)
  exact h1.eq (by simp)
theorem mid_kinds (n : Nat) (h : n < 10) (ht : hasTo (n : Int) = true) (c0 : ¬ ((n : Int) = 0)) (c2 : ¬ ((n : Int) = 2)) (c7 : ¬ ((n : Int) = 7)) (c9 : ¬ ((n : Int) = 9)) : (n : Int) = 3 ∨ (n : Int) = 4 ∨ (n : Int) = 5 ∨ (n : Int) = 6 := by
  match n, h with
  | 0, _ => exact absurd rfl c0
  | 1, _ => exact absurd ht (by decide)
  | 2, _ => exact absurd rfl c2
  | 3, _ => exact .inl rfl
  | 4, _ => exact .inr (.inl rfl)
  | 5, _ => exact .inr (.inr (.inl rfl))
  | 6, _ => exact .inr (.inr (.inr rfl))
  | 7, _ => exact absurd rfl c7
  | 8, _ => exact absurd ht (by decide)
  | 9, _ => exact absurd rfl c9
set_option maxRecDepth 100000 in
set_option maxHeartbeats 8000000 in
theorem row_any (id : Int) (ver : Int) (bn : ByteArray) (meth : Int) (pw : ByteArray) (mech : ByteArray) (cred : ByteArray) (hcr : Bool) (base : ByteArray) (scope : Int) (deref : Int) (szl : Int) (tml : Int) (tyo : Bool) (vF : Value) (vA : Value) (name : ByteArray) (vC : Value) (vT : Value) (rdn : ByteArray) (dold : Bool) (sup : ByteArray) (hsup : Bool) (desc : ByteArray) (val : ByteArray) (hval : Bool) (aban : Int) (v28 : Value) (cd : Int) (tx : ByteArray) (w : World) (hT : TabR w) (n : Nat) (hn : n < 10) (kI : Int) (hkI : Hid (kI = (n : Int))) :
    Calls Tryd.prog 11 #[.agg #[.int .i64 id, .int .i64 kI, .int .i64 ver, .string bn, .int .i64 meth, .string pw, .string mech, .string cred, .bool hcr, .string base, .int .i64 scope, .int .i64 deref, .int .i64 szl, .int .i64 tml, .bool tyo, vF, vA, .string name, vC, vT, .string rdn, .bool dold, .string sup, .bool hsup, .string desc, .string val, .bool hval, .int .i64 aban, v28], .int .i64 cd, .string tx] w fun e w' => e = .returned (.tuple #[.agg #[.int .i64 id, .int .i64 (kindsL.getD n 0), .int .i64 cd, .string ⟨#[]⟩, .string tx, .string ⟨#[]⟩, .slice none 0 0, .string ⟨#[]⟩, .bool false, .slice none 0 0], .bool true]) ∧ Below w.heap.size w w' := by
  have hu36 := Tryd.underlying36
  have hu42 := Tryd.underlying42
  have HT := Lib.hid hT
  clear hT
  obtain rfl := hkI.out
  clear hkI
  obtain ⟨kv, hkv⟩ : ∃ x, x = kindsL.getD n 0 := ⟨_, rfl⟩
  rw [← hkv]
  have HKV := Lib.hid hkv
  clear hkv
  go_enter Tryd.func11, Tryd.ntmps11
  go_upto_region 1 with fail
  refine gen2 (G := fun W => Code.wp _ _ _ _ W) ?_
  intro W1 b1 z1 h1 h2
  have HB1 := Lib.hid b1
  have H1 := Lib.hid h1
  have H2 := Lib.hid h2
  have Z1 := Lib.hid z1
  clear b1 h1 h2 z1
  go_upto_region 2 with fail
  refine gen1 (G := fun W => Code.wp _ _ _ _ W) ?_
  intro W2 b2 z2 h3
  rw [Z1.out] at h3 ⊢
  have HB := Lib.hid (show Below w.heap.size w W2 from HB1.out.trans (b2.mono HB1.out.size))
  have h1 := H1.out.below b2 H1.out.lt
  have h2 := H2.out.below b2 H2.out.lt
  have hk0 := (HT.out.below HB.out (Nat.le_refl _)).kinds n hn
  rw [← HKV.out] at hk0
  have x0 := (h1.cell 0).trans rfl
  have x1 := (h1.cell 1).trans rfl
  have l1 := h1.lt
  have l2 := h2.lt
  have l3 := h3.lt
  have q0 : (0 : Int) ≤ n := by omega
  have q1 : (n : Int) < 10 := by omega
  have s0 := (h2.cell 0).trans rfl
  have t0 := h2.free 0
  have u0 := (h3.cell 0).trans rfl
  have s1 := (h2.cell 1).trans rfl
  have t1 := h2.free 1
  have u1 := (h3.cell 1).trans rfl
  have s2 := (h2.cell 2).trans rfl
  have t2 := h2.free 2
  have u2 := (h3.cell 2).trans rfl
  have s3 := (h2.cell 3).trans rfl
  have t3 := h2.free 3
  have u3 := (h3.cell 3).trans rfl
  have s4 := (h2.cell 4).trans rfl
  have t4 := h2.free 4
  have u4 := (h3.cell 4).trans rfl
  have s5 := (h2.cell 5).trans rfl
  have t5 := h2.free 5
  have u5 := (h3.cell 5).trans rfl
  have s6 := (h2.cell 6).trans rfl
  have t6 := h2.free 6
  have u6 := (h3.cell 6).trans rfl
  have s7 := (h2.cell 7).trans rfl
  have t7 := h2.free 7
  have u7 := (h3.cell 7).trans rfl
  have s8 := (h2.cell 8).trans rfl
  have t8 := h2.free 8
  have u8 := (h3.cell 8).trans rfl
  have s9 := (h2.cell 9).trans rfl
  have t9 := h2.free 9
  have u9 := (h3.cell 9).trans rfl
  have v0 := h3.free 0
  have v1 := h3.free 1
  have v2 := h3.free 2
  have v4 := h3.free 4
  have H3 := Lib.hid h3
  have H4 := Lib.hid h2
  clear b2 h1 h2 h3 z2 hn
  go_wp2_with fail
  have hF := fin10 ((H4.out.far (p := ⟨w.heap.size + 1 + 1, 0, none⟩) (by dsimp only; omega) (.int .i64 id)).far (p := ⟨w.heap.size + 1 + 1, 1, none⟩) (by dsimp only; omega) (.int .i64 kv) |>.far (p := ⟨w.heap.size + 1 + 1, 2, none⟩) (by dsimp only; omega) (.int .i64 cd) |>.far (p := ⟨w.heap.size + 1 + 1, 4, none⟩) (by dsimp only; omega) (.string tx))
    ((((HB.out.setCell (by dsimp only; omega) _).setCell (by dsimp only; omega) _).setCell (by dsimp only; omega) _).setCell (by dsimp only; omega) _) (Nat.le_succ _) id kv cd ⟨#[]⟩ tx
  refine bodyPost_ret (results_row_tmp (p := 6) (u := 7) (ty := 42) ?h0 _ _ (w.heap.size + 1) 42 _ _ (.bool true) ?hp ?hv hF.1 Tryd.underlying42 ?hd ?sz) rfl ?_
  case h0 => rfl
  case hp => rfl
  case hv => rfl
  case hd => rfl
  case sz => kernel_rfl
  exact ⟨rfl, hF.2⟩
set_option maxRecDepth 100000 in
set_option maxHeartbeats 8000000 in
theorem rRef_crit (id : Int) (ver : Int) (bn : ByteArray) (meth : Int) (pw : ByteArray) (mech : ByteArray) (cred : ByteArray) (hcr : Bool) (base : ByteArray) (scope : Int) (deref : Int) (szl : Int) (tml : Int) (tyo : Bool) (vF : Value) (vA : Value) (name : ByteArray) (vC : Value) (vT : Value) (rdn : ByteArray) (dold : Bool) (sup : ByteArray) (hsup : Bool) (desc : ByteArray) (val : ByteArray) (hval : Bool) (aban : Int) (A28 : Option Addr) (c28 : Nat) (ctl : List S52) (w : World) (hT : TabR w) (hC : Kd.C k52 w A28 ctl.length ctl) (hc : ctl.length ≤ c28) (hl : ctl.length ≤ 1048576) (n : Nat) (hn : n < 10) (hsel : ctl.any (fun c => c.f1) = true) :
    Calls Tryd.prog 4 #[.agg #[.int .i64 id, .int .i64 (n : Int), .int .i64 ver, .string bn, .int .i64 meth, .string pw, .string mech, .string cred, .bool hcr, .string base, .int .i64 scope, .int .i64 deref, .int .i64 szl, .int .i64 tml, .bool tyo, vF, vA, .string name, vC, vT, .string rdn, .bool dold, .string sup, .bool hsup, .string desc, .string val, .bool hval, .int .i64 aban, .slice A28 ctl.length c28]] w fun e w' => e = .returned (.tuple #[repV (refS id (n : Int) ver meth pw bn ctl).1, .bool (refS id (n : Int) ver meth pw bn ctl).2]) ∧ Below w.heap.size w w' := by
  have hu36 := Tryd.underlying36
  have hu42 := Tryd.underlying42
  have HS := Lib.hid hsel
  clear hsel
  have HT := Lib.hid hT
  have HC := Lib.hid hC
  clear hT hC
  have kh := kinds_has n hn
  obtain ⟨kv, hkv⟩ : ∃ x, x = kindsL.getD n 0 := ⟨_, rfl⟩
  rw [← hkv] at kh
  have HKV := Lib.hid hkv
  have HKH := Lib.hid kh
  clear hkv kh
  go_enter Tryd.func4, Tryd.ntmps4
  go_upto_region 1 with fail
  refine gen2 (G := fun W => Code.wp _ _ _ _ W) ?_
  intro W1 b1 z1 h1 h2
  have hk0 := (HT.out.below b1 (Nat.le_refl _)).kinds n hn
  rw [← HKV.out] at hk0
  have x1 := (h1.cell 1).trans rfl
  have x2 := (h1.cell 2).trans rfl
  have x3 := (h1.cell 3).trans rfl
  have x4 := (h1.cell 4).trans rfl
  have x5 := (h1.cell 5).trans rfl
  have x28 := (h1.cell 28).trans rfl
  have q0 : (0 : Int) ≤ n := by omega
  have q1 : (n : Int) < 10 := by omega
  have HT1 := Lib.hid (HT.out.below b1 (Nat.le_refl _))
  have HB1 := Lib.hid b1
  have H1 := Lib.hid h1
  have H2 := Lib.hid h2
  clear b1 h1 h2 z1
  by_cases ht : hasTo (n : Int) = true
  · have kv0 : ¬ (kv < 0) := Int.not_lt.2 (HKH.out.1.2 ht)
    go_wp2_with fail
    clear hk0 kv0
    go_loopw [4] (fun v wr => ∃ i : Nat, v = .int .i64 i ∧ i ≤ ctl.length ∧ Hid (∀ j : Nat, j < i → (rd_T52 ctl j).f1 = false) ∧ wr = W1) (fun v _ => ctl.length - (intOf v).toNat)
    case atStart => exact ⟨0, rfl, Nat.zero_le _, Lib.hid (fun j hj => absurd hj (Nat.not_lt_zero j)), by first | rfl | trivial⟩
    case round =>
      obtain ⟨i, rfl, hi, HN, hw⟩ := hrel
      rw [hw]
      clear hw
      by_cases hil : i < ctl.length
      · have p : (0 : Int) ≤ i := by omega
        have q : (i : Int) < ctl.length := by omega
        obtain ⟨ad, rfl, y0, y1, y2, y3⟩ := at_T52 (Kd.C_below HC.out HB1.out) (i : Int) p q
        rw [Int.toNat_natCast] at y0 y1 y2 y3
        obtain ⟨cc, hcc⟩ : ∃ c, c = rd_T52 ctl (i : Int) := ⟨_, rfl⟩
        rw [← hcc] at y0 y1 y2 y3
        have HCC := Lib.hid hcc
        clear hcc
        cases hcr1 : cc.f1 with
        | false =>
          rw [hcr1] at y1
          go_wp2_with fail
          go_roundw
          case rel => exact ⟨i + 1, by go_num, by omega, Lib.hid (fun j hj => by
            rcases Nat.lt_succ_iff_lt_or_eq.1 hj with h | rfl
            · exact HN.out j h
            · rw [← HCC.out]; exact hcr1), by first | rfl | trivial⟩
          case measure => simp [intOf]; omega
        | true =>
          rw [hcr1] at y1
          have e : refS id (n : Int) ver meth pw bn ctl = ((id, toOf (n : Int), 12, ⟨#[99, 114, 105, 116, 105, 99, 97, 108, 32, 99, 111, 110, 116, 114, 111, 108]⟩), true) := by
            unfold refS boundS
            rw [if_pos ht, if_pos (any_some ctl i hil (by rw [← HCC.out]; exact hcr1))]
          have HE := Lib.hid e
          clear e
          go_wp2_with (first | ((with_reducible refine gate_dst (N := 34) rfl ?_); refine wpList_load_row rfl 36 (.tmp 1) rfl w.heap.size rfl 36 _ (0, 0) _ H1.out hu36 rfl (by kernel_rfl) ?_) | ((with_reducible refine gate_dst (N := 48) rfl ?_); refine wpList_load_row rfl 36 (.tmp 1) rfl w.heap.size rfl 36 _ (0, 0) _ H1.out hu36 rfl (by kernel_rfl) ?_) | ((with_reducible refine gate_dst (N := 54) rfl ?_); refine wpList_load_row rfl 36 (.tmp 1) rfl w.heap.size rfl 36 _ (0, 0) _ H1.out hu36 rfl (by kernel_rfl) ?_) | ((with_reducible refine gate_dst (N := 60) rfl ?_); refine wpList_load_row rfl 36 (.tmp 1) rfl w.heap.size rfl 36 _ (0, 0) _ H1.out hu36 rfl (by kernel_rfl) ?_) | ((with_reducible refine gate_dst (N := 69) rfl ?_); refine wpList_load_row rfl 36 (.tmp 1) rfl w.heap.size rfl 36 _ (0, 0) _ H1.out hu36 rfl (by kernel_rfl) ?_) | ((with_reducible refine gate_dst (N := 78) rfl ?_); refine wpList_load_row rfl 36 (.tmp 1) rfl w.heap.size rfl 36 _ (0, 0) _ H1.out hu36 rfl (by kernel_rfl) ?_) | ((with_reducible refine gate_dst (N := 87) rfl ?_); refine wpList_load_row rfl 36 (.tmp 1) rfl w.heap.size rfl 36 _ (0, 0) _ H1.out hu36 rfl (by kernel_rfl) ?_) | ((with_reducible refine gate_dst (N := 96) rfl ?_); refine wpList_load_row rfl 36 (.tmp 1) rfl w.heap.size rfl 36 _ (0, 0) _ H1.out hu36 rfl (by kernel_rfl) ?_) | ((with_reducible refine gate_dst (N := 100) rfl ?_); refine wpList_load_row rfl 36 (.tmp 1) rfl w.heap.size rfl 36 _ (0, 0) _ H1.out hu36 rfl (by kernel_rfl) ?_))
          refine (row_any _ _ _ _ _ _ _ _ _ _ _ _ _ _ _ _ _ _ _ _ _ _ _ _ _ _ _ _ 12 ⟨#[99, 114, 105, 116, 105, 99, 97, 108, 32, 99, 111, 110, 116, 114, 111, 108]⟩ W1 HT1.out n hn _ (Lib.hid (by first | rfl | omega))).mono ?_
          rintro en w1 ⟨rfl, b1⟩
          rw [← HKV.out]
          have h2 := H2.out.below b1 H2.out.lt
          have B1 := Lib.hid (HB1.out.trans (b1.mono HB1.out.size))
          have l2 := h2.lt
          have s0 := (h2.cell 0).trans rfl
          have t0 := h2.free 0
          have s1 := (h2.cell 1).trans rfl
          have t1 := h2.free 1
          have s2 := (h2.cell 2).trans rfl
          have t2 := h2.free 2
          have s3 := (h2.cell 3).trans rfl
          have t3 := h2.free 3
          have s4 := (h2.cell 4).trans rfl
          have t4 := h2.free 4
          have s5 := (h2.cell 5).trans rfl
          have t5 := h2.free 5
          have s6 := (h2.cell 6).trans rfl
          have t6 := h2.free 6
          have s7 := (h2.cell 7).trans rfl
          have t7 := h2.free 7
          have s8 := (h2.cell 8).trans rfl
          have t8 := h2.free 8
          have s9 := (h2.cell 9).trans rfl
          have t9 := h2.free 9
          have H3 := Lib.hid h2
          clear h2 b1
          go_wp2_with fail
          have hF := fin10 H3.out B1.out (Nat.le_succ _) id kv 12 ⟨#[]⟩ ⟨#[99, 114, 105, 116, 105, 99, 97, 108, 32, 99, 111, 110, 116, 114, 111, 108]⟩
          refine bodyPost_ret (results_row_tmp (p := 2) (u := 3) (ty := 42) ?h0 _ _ (w.heap.size + 1) 42 _ _ (.bool true) ?hp ?hv hF.1 Tryd.underlying42 ?hd ?sz) rfl ?_
          case h0 => rfl
          case hp => rfl
          case hv => rfl
          case hd => rfl
          case sz => kernel_rfl
          rw [HE.out, ← HKH.out.2 ht]
          exact ⟨rfl, hF.2⟩
      · obtain rfl : i = ctl.length := by omega
        exact absurd HS.out (by rw [any_none ctl HN.out]; decide)
  · have kv0 : kv < 0 := Int.not_le.1 (fun h => ht (HKH.out.1.1 h))
    have e : refS id (n : Int) ver meth pw bn ctl = ((0, 0, 0, ⟨#[]⟩), false) := by
      unfold refS
      rw [if_neg ht]
    have HE := Lib.hid e
    have h2 := H2.out
    have l2 := h2.lt
    have s0 := (h2.cell 0).trans rfl
    have t0 := h2.free 0
    have s1 := (h2.cell 1).trans rfl
    have t1 := h2.free 1
    have s2 := (h2.cell 2).trans rfl
    have t2 := h2.free 2
    have s3 := (h2.cell 3).trans rfl
    have t3 := h2.free 3
    have s4 := (h2.cell 4).trans rfl
    have t4 := h2.free 4
    have s5 := (h2.cell 5).trans rfl
    have t5 := h2.free 5
    have s6 := (h2.cell 6).trans rfl
    have t6 := h2.free 6
    have s7 := (h2.cell 7).trans rfl
    have t7 := h2.free 7
    have s8 := (h2.cell 8).trans rfl
    have t8 := h2.free 8
    have s9 := (h2.cell 9).trans rfl
    have t9 := h2.free 9
    clear e h2
    go_wp2_with fail
    have hF := fin10 H2.out HB1.out (Nat.le_succ _) 0 0 0 ⟨#[]⟩ ⟨#[]⟩
    refine bodyPost_ret (results_row_tmp (p := 2) (u := 3) (ty := 42) ?h0 _ _ (w.heap.size + 1) 42 _ _ (.bool false) ?hp ?hv hF.1 Tryd.underlying42 ?hd ?sz) rfl ?_
    case h0 => rfl
    case hp => rfl
    case hv => rfl
    case hd => rfl
    case sz => kernel_rfl
    rw [HE.out]
    exact ⟨rfl, hF.2⟩
set_option maxRecDepth 100000 in
set_option maxHeartbeats 8000000 in
theorem rRef_a (id : Int) (ver : Int) (bn : ByteArray) (meth : Int) (pw : ByteArray) (mech : ByteArray) (cred : ByteArray) (hcr : Bool) (base : ByteArray) (scope : Int) (deref : Int) (szl : Int) (tml : Int) (tyo : Bool) (vF : Value) (vA : Value) (name : ByteArray) (vC : Value) (vT : Value) (rdn : ByteArray) (dold : Bool) (sup : ByteArray) (hsup : Bool) (desc : ByteArray) (val : ByteArray) (hval : Bool) (aban : Int) (A28 : Option Addr) (c28 : Nat) (ctl : List S52) (w : World) (hT : TabR w) (hC : Kd.C k52 w A28 ctl.length ctl) (hc : ctl.length ≤ c28) (hl : ctl.length ≤ 1048576) (n : Nat) (hn : n < 10) (hsel : ¬ (ctl.any (fun c => c.f1) = true) ∧ ((n : Int) = 2 ∨ (n : Int) = 7 ∨ (n : Int) = 9)) :
    Calls Tryd.prog 4 #[.agg #[.int .i64 id, .int .i64 (n : Int), .int .i64 ver, .string bn, .int .i64 meth, .string pw, .string mech, .string cred, .bool hcr, .string base, .int .i64 scope, .int .i64 deref, .int .i64 szl, .int .i64 tml, .bool tyo, vF, vA, .string name, vC, vT, .string rdn, .bool dold, .string sup, .bool hsup, .string desc, .string val, .bool hval, .int .i64 aban, .slice A28 ctl.length c28]] w fun e w' => e = .returned (.tuple #[repV (refS id (n : Int) ver meth pw bn ctl).1, .bool (refS id (n : Int) ver meth pw bn ctl).2]) ∧ Below w.heap.size w w' := by
  have hu36 := Tryd.underlying36
  have hu42 := Tryd.underlying42
  have HS := Lib.hid hsel
  clear hsel
  have HT := Lib.hid hT
  have HC := Lib.hid hC
  clear hT hC
  have kh := kinds_has n hn
  obtain ⟨kv, hkv⟩ : ∃ x, x = kindsL.getD n 0 := ⟨_, rfl⟩
  rw [← hkv] at kh
  have HKV := Lib.hid hkv
  have HKH := Lib.hid kh
  clear hkv kh
  go_enter Tryd.func4, Tryd.ntmps4
  go_upto_region 1 with fail
  refine gen2 (G := fun W => Code.wp _ _ _ _ W) ?_
  intro W1 b1 z1 h1 h2
  have hk0 := (HT.out.below b1 (Nat.le_refl _)).kinds n hn
  rw [← HKV.out] at hk0
  have x1 := (h1.cell 1).trans rfl
  have x2 := (h1.cell 2).trans rfl
  have x3 := (h1.cell 3).trans rfl
  have x4 := (h1.cell 4).trans rfl
  have x5 := (h1.cell 5).trans rfl
  have x28 := (h1.cell 28).trans rfl
  have q0 : (0 : Int) ≤ n := by omega
  have q1 : (n : Int) < 10 := by omega
  have HT1 := Lib.hid (HT.out.below b1 (Nat.le_refl _))
  have HB1 := Lib.hid b1
  have H1 := Lib.hid h1
  have H2 := Lib.hid h2
  clear b1 h1 h2 z1
  by_cases ht : hasTo (n : Int) = true
  · have kv0 : ¬ (kv < 0) := Int.not_lt.2 (HKH.out.1.2 ht)
    go_wp2_with fail
    clear hk0 kv0
    go_loopw [4] (fun v wr => ∃ i : Nat, v = .int .i64 i ∧ i ≤ ctl.length ∧ Hid (∀ j : Nat, j < i → (rd_T52 ctl j).f1 = false) ∧ wr = W1) (fun v _ => ctl.length - (intOf v).toNat)
    case atStart => exact ⟨0, rfl, Nat.zero_le _, Lib.hid (fun j hj => absurd hj (Nat.not_lt_zero j)), by first | rfl | trivial⟩
    case round =>
      obtain ⟨i, rfl, hi, HN, hw⟩ := hrel
      rw [hw]
      clear hw
      by_cases hil : i < ctl.length
      · have p : (0 : Int) ≤ i := by omega
        have q : (i : Int) < ctl.length := by omega
        obtain ⟨ad, rfl, y0, y1, y2, y3⟩ := at_T52 (Kd.C_below HC.out HB1.out) (i : Int) p q
        rw [Int.toNat_natCast] at y0 y1 y2 y3
        obtain ⟨cc, hcc⟩ : ∃ c, c = rd_T52 ctl (i : Int) := ⟨_, rfl⟩
        rw [← hcc] at y0 y1 y2 y3
        have HCC := Lib.hid hcc
        clear hcc
        cases hcr1 : cc.f1 with
        | false =>
          rw [hcr1] at y1
          go_wp2_with fail
          go_roundw
          case rel => exact ⟨i + 1, by go_num, by omega, Lib.hid (fun j hj => by
            rcases Nat.lt_succ_iff_lt_or_eq.1 hj with h | rfl
            · exact HN.out j h
            · rw [← HCC.out]; exact hcr1), by first | rfl | trivial⟩
          case measure => simp [intOf]; omega
        | true =>
          rw [hcr1] at y1
          exact absurd (any_some ctl i hil (by rw [← HCC.out]; exact hcr1)) HS.out.1
      · obtain rfl : i = ctl.length := by omega
        have HA := Lib.hid (show ¬ (ctl.any (fun c => c.f1) = true) by rw [any_none ctl HN.out]; decide)
        clear HN
        by_cases c2 : (n : Int) = 2
        · have e : refS id (n : Int) ver meth pw bn ctl = ((0, 0, 0, ⟨#[]⟩), false) := by
            unfold refS
            rw [if_pos ht, if_neg HA.out, if_neg (show ¬ ((n : Int) = 0) by omega), if_pos c2]
          have HE := Lib.hid e
          have h2 := H2.out
          have l2 := h2.lt
          have s0 := (h2.cell 0).trans rfl
          have t0 := h2.free 0
          have s1 := (h2.cell 1).trans rfl
          have t1 := h2.free 1
          have s2 := (h2.cell 2).trans rfl
          have t2 := h2.free 2
          have s3 := (h2.cell 3).trans rfl
          have t3 := h2.free 3
          have s4 := (h2.cell 4).trans rfl
          have t4 := h2.free 4
          have s5 := (h2.cell 5).trans rfl
          have t5 := h2.free 5
          have s6 := (h2.cell 6).trans rfl
          have t6 := h2.free 6
          have s7 := (h2.cell 7).trans rfl
          have t7 := h2.free 7
          have s8 := (h2.cell 8).trans rfl
          have t8 := h2.free 8
          have s9 := (h2.cell 9).trans rfl
          have t9 := h2.free 9
          clear e h2
          go_wp2_with fail
          have hF := fin10 H2.out HB1.out (Nat.le_succ _) 0 0 0 ⟨#[]⟩ ⟨#[]⟩
          refine bodyPost_ret (results_row_tmp (p := 2) (u := 3) (ty := 42) ?h0 _ _ (w.heap.size + 1) 42 _ _ (.bool false) ?hp ?hv hF.1 Tryd.underlying42 ?hd ?sz) rfl ?_
          case h0 => rfl
          case hp => rfl
          case hv => rfl
          case hd => rfl
          case sz => kernel_rfl
          rw [HE.out]
          exact ⟨rfl, hF.2⟩
        · by_cases c7 : (n : Int) = 7
          · have e : refS id (n : Int) ver meth pw bn ctl = ((id, toOf (n : Int), 53, ⟨#[110, 111, 32, 99, 111, 109, 112, 97, 114, 101]⟩), true) := by
              unfold refS boundS
              rw [if_pos ht, if_neg HA.out, if_neg (show ¬ ((n : Int) = 0) by omega), if_neg c2, if_pos c7]
            have HE := Lib.hid e
            clear e
            go_wp2_with (first | ((with_reducible refine gate_dst (N := 34) rfl ?_); refine wpList_load_row rfl 36 (.tmp 1) rfl w.heap.size rfl 36 _ (0, 0) _ H1.out hu36 rfl (by kernel_rfl) ?_) | ((with_reducible refine gate_dst (N := 48) rfl ?_); refine wpList_load_row rfl 36 (.tmp 1) rfl w.heap.size rfl 36 _ (0, 0) _ H1.out hu36 rfl (by kernel_rfl) ?_) | ((with_reducible refine gate_dst (N := 54) rfl ?_); refine wpList_load_row rfl 36 (.tmp 1) rfl w.heap.size rfl 36 _ (0, 0) _ H1.out hu36 rfl (by kernel_rfl) ?_) | ((with_reducible refine gate_dst (N := 60) rfl ?_); refine wpList_load_row rfl 36 (.tmp 1) rfl w.heap.size rfl 36 _ (0, 0) _ H1.out hu36 rfl (by kernel_rfl) ?_) | ((with_reducible refine gate_dst (N := 69) rfl ?_); refine wpList_load_row rfl 36 (.tmp 1) rfl w.heap.size rfl 36 _ (0, 0) _ H1.out hu36 rfl (by kernel_rfl) ?_) | ((with_reducible refine gate_dst (N := 78) rfl ?_); refine wpList_load_row rfl 36 (.tmp 1) rfl w.heap.size rfl 36 _ (0, 0) _ H1.out hu36 rfl (by kernel_rfl) ?_) | ((with_reducible refine gate_dst (N := 87) rfl ?_); refine wpList_load_row rfl 36 (.tmp 1) rfl w.heap.size rfl 36 _ (0, 0) _ H1.out hu36 rfl (by kernel_rfl) ?_) | ((with_reducible refine gate_dst (N := 96) rfl ?_); refine wpList_load_row rfl 36 (.tmp 1) rfl w.heap.size rfl 36 _ (0, 0) _ H1.out hu36 rfl (by kernel_rfl) ?_) | ((with_reducible refine gate_dst (N := 100) rfl ?_); refine wpList_load_row rfl 36 (.tmp 1) rfl w.heap.size rfl 36 _ (0, 0) _ H1.out hu36 rfl (by kernel_rfl) ?_))
            refine (row_any _ _ _ _ _ _ _ _ _ _ _ _ _ _ _ _ _ _ _ _ _ _ _ _ _ _ _ _ 53 ⟨#[110, 111, 32, 99, 111, 109, 112, 97, 114, 101]⟩ W1 HT1.out n hn _ (Lib.hid (by first | rfl | omega))).mono ?_
            rintro en w1 ⟨rfl, b1⟩
            rw [← HKV.out]
            have h2 := H2.out.below b1 H2.out.lt
            have B1 := Lib.hid (HB1.out.trans (b1.mono HB1.out.size))
            have l2 := h2.lt
            have s0 := (h2.cell 0).trans rfl
            have t0 := h2.free 0
            have s1 := (h2.cell 1).trans rfl
            have t1 := h2.free 1
            have s2 := (h2.cell 2).trans rfl
            have t2 := h2.free 2
            have s3 := (h2.cell 3).trans rfl
            have t3 := h2.free 3
            have s4 := (h2.cell 4).trans rfl
            have t4 := h2.free 4
            have s5 := (h2.cell 5).trans rfl
            have t5 := h2.free 5
            have s6 := (h2.cell 6).trans rfl
            have t6 := h2.free 6
            have s7 := (h2.cell 7).trans rfl
            have t7 := h2.free 7
            have s8 := (h2.cell 8).trans rfl
            have t8 := h2.free 8
            have s9 := (h2.cell 9).trans rfl
            have t9 := h2.free 9
            have H3 := Lib.hid h2
            clear h2 b1
            go_wp2_with fail
            have hF := fin10 H3.out B1.out (Nat.le_succ _) id kv 53 ⟨#[]⟩ ⟨#[110, 111, 32, 99, 111, 109, 112, 97, 114, 101]⟩
            refine bodyPost_ret (results_row_tmp (p := 2) (u := 3) (ty := 42) ?h0 _ _ (w.heap.size + 1) 42 _ _ (.bool true) ?hp ?hv hF.1 Tryd.underlying42 ?hd ?sz) rfl ?_
            case h0 => rfl
            case hp => rfl
            case hv => rfl
            case hd => rfl
            case sz => kernel_rfl
            rw [HE.out, ← HKH.out.2 ht]
            exact ⟨rfl, hF.2⟩
          · by_cases c9 : (n : Int) = 9
            · have e : refS id (n : Int) ver meth pw bn ctl = ((id, toOf (n : Int), 2, ⟨#[110, 111, 32, 115, 117, 99, 104, 32, 111, 112, 101, 114, 97, 116, 105, 111, 110]⟩), true) := by
                unfold refS boundS
                rw [if_pos ht, if_neg HA.out, if_neg (show ¬ ((n : Int) = 0) by omega), if_neg c2, if_neg c7, if_pos c9]
              have HE := Lib.hid e
              clear e
              go_wp2_with (first | ((with_reducible refine gate_dst (N := 34) rfl ?_); refine wpList_load_row rfl 36 (.tmp 1) rfl w.heap.size rfl 36 _ (0, 0) _ H1.out hu36 rfl (by kernel_rfl) ?_) | ((with_reducible refine gate_dst (N := 48) rfl ?_); refine wpList_load_row rfl 36 (.tmp 1) rfl w.heap.size rfl 36 _ (0, 0) _ H1.out hu36 rfl (by kernel_rfl) ?_) | ((with_reducible refine gate_dst (N := 54) rfl ?_); refine wpList_load_row rfl 36 (.tmp 1) rfl w.heap.size rfl 36 _ (0, 0) _ H1.out hu36 rfl (by kernel_rfl) ?_) | ((with_reducible refine gate_dst (N := 60) rfl ?_); refine wpList_load_row rfl 36 (.tmp 1) rfl w.heap.size rfl 36 _ (0, 0) _ H1.out hu36 rfl (by kernel_rfl) ?_) | ((with_reducible refine gate_dst (N := 69) rfl ?_); refine wpList_load_row rfl 36 (.tmp 1) rfl w.heap.size rfl 36 _ (0, 0) _ H1.out hu36 rfl (by kernel_rfl) ?_) | ((with_reducible refine gate_dst (N := 78) rfl ?_); refine wpList_load_row rfl 36 (.tmp 1) rfl w.heap.size rfl 36 _ (0, 0) _ H1.out hu36 rfl (by kernel_rfl) ?_) | ((with_reducible refine gate_dst (N := 87) rfl ?_); refine wpList_load_row rfl 36 (.tmp 1) rfl w.heap.size rfl 36 _ (0, 0) _ H1.out hu36 rfl (by kernel_rfl) ?_) | ((with_reducible refine gate_dst (N := 96) rfl ?_); refine wpList_load_row rfl 36 (.tmp 1) rfl w.heap.size rfl 36 _ (0, 0) _ H1.out hu36 rfl (by kernel_rfl) ?_) | ((with_reducible refine gate_dst (N := 100) rfl ?_); refine wpList_load_row rfl 36 (.tmp 1) rfl w.heap.size rfl 36 _ (0, 0) _ H1.out hu36 rfl (by kernel_rfl) ?_))
              refine (row_any _ _ _ _ _ _ _ _ _ _ _ _ _ _ _ _ _ _ _ _ _ _ _ _ _ _ _ _ 2 ⟨#[110, 111, 32, 115, 117, 99, 104, 32, 111, 112, 101, 114, 97, 116, 105, 111, 110]⟩ W1 HT1.out n hn _ (Lib.hid (by first | rfl | omega))).mono ?_
              rintro en w1 ⟨rfl, b1⟩
              rw [← HKV.out]
              have h2 := H2.out.below b1 H2.out.lt
              have B1 := Lib.hid (HB1.out.trans (b1.mono HB1.out.size))
              have l2 := h2.lt
              have s0 := (h2.cell 0).trans rfl
              have t0 := h2.free 0
              have s1 := (h2.cell 1).trans rfl
              have t1 := h2.free 1
              have s2 := (h2.cell 2).trans rfl
              have t2 := h2.free 2
              have s3 := (h2.cell 3).trans rfl
              have t3 := h2.free 3
              have s4 := (h2.cell 4).trans rfl
              have t4 := h2.free 4
              have s5 := (h2.cell 5).trans rfl
              have t5 := h2.free 5
              have s6 := (h2.cell 6).trans rfl
              have t6 := h2.free 6
              have s7 := (h2.cell 7).trans rfl
              have t7 := h2.free 7
              have s8 := (h2.cell 8).trans rfl
              have t8 := h2.free 8
              have s9 := (h2.cell 9).trans rfl
              have t9 := h2.free 9
              have H3 := Lib.hid h2
              clear h2 b1
              go_wp2_with fail
              have hF := fin10 H3.out B1.out (Nat.le_succ _) id kv 2 ⟨#[]⟩ ⟨#[110, 111, 32, 115, 117, 99, 104, 32, 111, 112, 101, 114, 97, 116, 105, 111, 110]⟩
              refine bodyPost_ret (results_row_tmp (p := 2) (u := 3) (ty := 42) ?h0 _ _ (w.heap.size + 1) 42 _ _ (.bool true) ?hp ?hv hF.1 Tryd.underlying42 ?hd ?sz) rfl ?_
              case h0 => rfl
              case hp => rfl
              case hv => rfl
              case hd => rfl
              case sz => kernel_rfl
              rw [HE.out, ← HKH.out.2 ht]
              exact ⟨rfl, hF.2⟩
            · by_cases c0 : (n : Int) = 0
              · exact absurd HS.out.2 (by omega)
              · exact absurd HS.out.2 (by omega)
  · exact absurd ht (by rcases HS.out.2 with h | h | h <;> rw [h] <;> decide)
set_option maxRecDepth 100000 in
set_option maxHeartbeats 8000000 in
theorem rRef_b (id : Int) (ver : Int) (bn : ByteArray) (meth : Int) (pw : ByteArray) (mech : ByteArray) (cred : ByteArray) (hcr : Bool) (base : ByteArray) (scope : Int) (deref : Int) (szl : Int) (tml : Int) (tyo : Bool) (vF : Value) (vA : Value) (name : ByteArray) (vC : Value) (vT : Value) (rdn : ByteArray) (dold : Bool) (sup : ByteArray) (hsup : Bool) (desc : ByteArray) (val : ByteArray) (hval : Bool) (aban : Int) (A28 : Option Addr) (c28 : Nat) (ctl : List S52) (w : World) (hT : TabR w) (hC : Kd.C k52 w A28 ctl.length ctl) (hc : ctl.length ≤ c28) (hl : ctl.length ≤ 1048576) (n : Nat) (hn : n < 10) (hsel : ¬ (ctl.any (fun c => c.f1) = true) ∧ (n : Int) = 0) :
    Calls Tryd.prog 4 #[.agg #[.int .i64 id, .int .i64 (n : Int), .int .i64 ver, .string bn, .int .i64 meth, .string pw, .string mech, .string cred, .bool hcr, .string base, .int .i64 scope, .int .i64 deref, .int .i64 szl, .int .i64 tml, .bool tyo, vF, vA, .string name, vC, vT, .string rdn, .bool dold, .string sup, .bool hsup, .string desc, .string val, .bool hval, .int .i64 aban, .slice A28 ctl.length c28]] w fun e w' => e = .returned (.tuple #[repV (refS id (n : Int) ver meth pw bn ctl).1, .bool (refS id (n : Int) ver meth pw bn ctl).2]) ∧ Below w.heap.size w w' := by
  have hu36 := Tryd.underlying36
  have hu42 := Tryd.underlying42
  have HS := Lib.hid hsel
  clear hsel
  have HT := Lib.hid hT
  have HC := Lib.hid hC
  clear hT hC
  have kh := kinds_has n hn
  obtain ⟨kv, hkv⟩ : ∃ x, x = kindsL.getD n 0 := ⟨_, rfl⟩
  rw [← hkv] at kh
  have HKV := Lib.hid hkv
  have HKH := Lib.hid kh
  clear hkv kh
  go_enter Tryd.func4, Tryd.ntmps4
  go_upto_region 1 with fail
  refine gen2 (G := fun W => Code.wp _ _ _ _ W) ?_
  intro W1 b1 z1 h1 h2
  have hk0 := (HT.out.below b1 (Nat.le_refl _)).kinds n hn
  rw [← HKV.out] at hk0
  have x1 := (h1.cell 1).trans rfl
  have x2 := (h1.cell 2).trans rfl
  have x3 := (h1.cell 3).trans rfl
  have x4 := (h1.cell 4).trans rfl
  have x5 := (h1.cell 5).trans rfl
  have x28 := (h1.cell 28).trans rfl
  have q0 : (0 : Int) ≤ n := by omega
  have q1 : (n : Int) < 10 := by omega
  have HT1 := Lib.hid (HT.out.below b1 (Nat.le_refl _))
  have HB1 := Lib.hid b1
  have H1 := Lib.hid h1
  have H2 := Lib.hid h2
  clear b1 h1 h2 z1
  by_cases ht : hasTo (n : Int) = true
  · have kv0 : ¬ (kv < 0) := Int.not_lt.2 (HKH.out.1.2 ht)
    go_wp2_with fail
    clear hk0 kv0
    go_loopw [4] (fun v wr => ∃ i : Nat, v = .int .i64 i ∧ i ≤ ctl.length ∧ Hid (∀ j : Nat, j < i → (rd_T52 ctl j).f1 = false) ∧ wr = W1) (fun v _ => ctl.length - (intOf v).toNat)
    case atStart => exact ⟨0, rfl, Nat.zero_le _, Lib.hid (fun j hj => absurd hj (Nat.not_lt_zero j)), by first | rfl | trivial⟩
    case round =>
      obtain ⟨i, rfl, hi, HN, hw⟩ := hrel
      rw [hw]
      clear hw
      by_cases hil : i < ctl.length
      · have p : (0 : Int) ≤ i := by omega
        have q : (i : Int) < ctl.length := by omega
        obtain ⟨ad, rfl, y0, y1, y2, y3⟩ := at_T52 (Kd.C_below HC.out HB1.out) (i : Int) p q
        rw [Int.toNat_natCast] at y0 y1 y2 y3
        obtain ⟨cc, hcc⟩ : ∃ c, c = rd_T52 ctl (i : Int) := ⟨_, rfl⟩
        rw [← hcc] at y0 y1 y2 y3
        have HCC := Lib.hid hcc
        clear hcc
        cases hcr1 : cc.f1 with
        | false =>
          rw [hcr1] at y1
          go_wp2_with fail
          go_roundw
          case rel => exact ⟨i + 1, by go_num, by omega, Lib.hid (fun j hj => by
            rcases Nat.lt_succ_iff_lt_or_eq.1 hj with h | rfl
            · exact HN.out j h
            · rw [← HCC.out]; exact hcr1), by first | rfl | trivial⟩
          case measure => simp [intOf]; omega
        | true =>
          rw [hcr1] at y1
          exact absurd (any_some ctl i hil (by rw [← HCC.out]; exact hcr1)) HS.out.1
      · obtain rfl : i = ctl.length := by omega
        have HA := Lib.hid (show ¬ (ctl.any (fun c => c.f1) = true) by rw [any_none ctl HN.out]; decide)
        clear HN
        by_cases c2 : (n : Int) = 2
        · exact absurd HS.out.2 (by omega)
        · by_cases c7 : (n : Int) = 7
          · exact absurd HS.out.2 (by omega)
          · by_cases c9 : (n : Int) = 9
            · exact absurd HS.out.2 (by omega)
            · by_cases c0 : (n : Int) = 0
              · by_cases d1 : ver = 3
                · by_cases d2 : meth = 0
                  · by_cases d3 : pw.toList = []
                    · by_cases d4 : bn.toList = []
                      · have e : refS id (n : Int) ver meth pw bn ctl = ((id, toOf (n : Int), 0, ⟨#[]⟩), true) := by
                          unfold refS boundS
                          rw [if_pos ht, if_neg HA.out, if_pos c0, if_pos d1, if_pos d2, if_pos d3, if_pos d4]
                        have HE := Lib.hid e
                        clear e
                        go_wp2_with (first | ((with_reducible refine gate_dst (N := 34) rfl ?_); refine wpList_load_row rfl 36 (.tmp 1) rfl w.heap.size rfl 36 _ (0, 0) _ H1.out hu36 rfl (by kernel_rfl) ?_) | ((with_reducible refine gate_dst (N := 48) rfl ?_); refine wpList_load_row rfl 36 (.tmp 1) rfl w.heap.size rfl 36 _ (0, 0) _ H1.out hu36 rfl (by kernel_rfl) ?_) | ((with_reducible refine gate_dst (N := 54) rfl ?_); refine wpList_load_row rfl 36 (.tmp 1) rfl w.heap.size rfl 36 _ (0, 0) _ H1.out hu36 rfl (by kernel_rfl) ?_) | ((with_reducible refine gate_dst (N := 60) rfl ?_); refine wpList_load_row rfl 36 (.tmp 1) rfl w.heap.size rfl 36 _ (0, 0) _ H1.out hu36 rfl (by kernel_rfl) ?_) | ((with_reducible refine gate_dst (N := 69) rfl ?_); refine wpList_load_row rfl 36 (.tmp 1) rfl w.heap.size rfl 36 _ (0, 0) _ H1.out hu36 rfl (by kernel_rfl) ?_) | ((with_reducible refine gate_dst (N := 78) rfl ?_); refine wpList_load_row rfl 36 (.tmp 1) rfl w.heap.size rfl 36 _ (0, 0) _ H1.out hu36 rfl (by kernel_rfl) ?_) | ((with_reducible refine gate_dst (N := 87) rfl ?_); refine wpList_load_row rfl 36 (.tmp 1) rfl w.heap.size rfl 36 _ (0, 0) _ H1.out hu36 rfl (by kernel_rfl) ?_) | ((with_reducible refine gate_dst (N := 96) rfl ?_); refine wpList_load_row rfl 36 (.tmp 1) rfl w.heap.size rfl 36 _ (0, 0) _ H1.out hu36 rfl (by kernel_rfl) ?_) | ((with_reducible refine gate_dst (N := 100) rfl ?_); refine wpList_load_row rfl 36 (.tmp 1) rfl w.heap.size rfl 36 _ (0, 0) _ H1.out hu36 rfl (by kernel_rfl) ?_))
                        refine (row_any _ _ _ _ _ _ _ _ _ _ _ _ _ _ _ _ _ _ _ _ _ _ _ _ _ _ _ _ 0 ⟨#[]⟩ W1 HT1.out n hn _ (Lib.hid (by first | rfl | omega))).mono ?_
                        rintro en w1 ⟨rfl, b1⟩
                        rw [← HKV.out]
                        have h2 := H2.out.below b1 H2.out.lt
                        have B1 := Lib.hid (HB1.out.trans (b1.mono HB1.out.size))
                        have l2 := h2.lt
                        have s0 := (h2.cell 0).trans rfl
                        have t0 := h2.free 0
                        have s1 := (h2.cell 1).trans rfl
                        have t1 := h2.free 1
                        have s2 := (h2.cell 2).trans rfl
                        have t2 := h2.free 2
                        have s3 := (h2.cell 3).trans rfl
                        have t3 := h2.free 3
                        have s4 := (h2.cell 4).trans rfl
                        have t4 := h2.free 4
                        have s5 := (h2.cell 5).trans rfl
                        have t5 := h2.free 5
                        have s6 := (h2.cell 6).trans rfl
                        have t6 := h2.free 6
                        have s7 := (h2.cell 7).trans rfl
                        have t7 := h2.free 7
                        have s8 := (h2.cell 8).trans rfl
                        have t8 := h2.free 8
                        have s9 := (h2.cell 9).trans rfl
                        have t9 := h2.free 9
                        have H3 := Lib.hid h2
                        clear h2 b1
                        go_wp2_with fail
                        have hF := fin10 H3.out B1.out (Nat.le_succ _) id kv 0 ⟨#[]⟩ ⟨#[]⟩
                        refine bodyPost_ret (results_row_tmp (p := 2) (u := 3) (ty := 42) ?h0 _ _ (w.heap.size + 1) 42 _ _ (.bool true) ?hp ?hv hF.1 Tryd.underlying42 ?hd ?sz) rfl ?_
                        case h0 => rfl
                        case hp => rfl
                        case hv => rfl
                        case hd => rfl
                        case sz => kernel_rfl
                        rw [HE.out, ← HKH.out.2 ht]
                        exact ⟨rfl, hF.2⟩
                      · have e : refS id (n : Int) ver meth pw bn ctl = ((id, toOf (n : Int), 53, ⟨#[110, 97, 109, 101, 32, 119, 105, 116, 104, 111, 117, 116, 32, 112, 97, 115, 115, 119, 111, 114, 100]⟩), true) := by
                          unfold refS boundS
                          rw [if_pos ht, if_neg HA.out, if_pos c0, if_pos d1, if_pos d2, if_pos d3, if_neg d4]
                        have HE := Lib.hid e
                        clear e
                        have d4b0 : (bn.toList == ([] : List UInt8)) = false := beq_eq_false_iff_ne.mpr d4
                        have d4b1 : (bn.toList != ([] : List UInt8)) = true := bne_iff_ne.mpr d4
                        clear d4
                        go_wp2_with (first | ((with_reducible refine gate_dst (N := 34) rfl ?_); refine wpList_load_row rfl 36 (.tmp 1) rfl w.heap.size rfl 36 _ (0, 0) _ H1.out hu36 rfl (by kernel_rfl) ?_) | ((with_reducible refine gate_dst (N := 48) rfl ?_); refine wpList_load_row rfl 36 (.tmp 1) rfl w.heap.size rfl 36 _ (0, 0) _ H1.out hu36 rfl (by kernel_rfl) ?_) | ((with_reducible refine gate_dst (N := 54) rfl ?_); refine wpList_load_row rfl 36 (.tmp 1) rfl w.heap.size rfl 36 _ (0, 0) _ H1.out hu36 rfl (by kernel_rfl) ?_) | ((with_reducible refine gate_dst (N := 60) rfl ?_); refine wpList_load_row rfl 36 (.tmp 1) rfl w.heap.size rfl 36 _ (0, 0) _ H1.out hu36 rfl (by kernel_rfl) ?_) | ((with_reducible refine gate_dst (N := 69) rfl ?_); refine wpList_load_row rfl 36 (.tmp 1) rfl w.heap.size rfl 36 _ (0, 0) _ H1.out hu36 rfl (by kernel_rfl) ?_) | ((with_reducible refine gate_dst (N := 78) rfl ?_); refine wpList_load_row rfl 36 (.tmp 1) rfl w.heap.size rfl 36 _ (0, 0) _ H1.out hu36 rfl (by kernel_rfl) ?_) | ((with_reducible refine gate_dst (N := 87) rfl ?_); refine wpList_load_row rfl 36 (.tmp 1) rfl w.heap.size rfl 36 _ (0, 0) _ H1.out hu36 rfl (by kernel_rfl) ?_) | ((with_reducible refine gate_dst (N := 96) rfl ?_); refine wpList_load_row rfl 36 (.tmp 1) rfl w.heap.size rfl 36 _ (0, 0) _ H1.out hu36 rfl (by kernel_rfl) ?_) | ((with_reducible refine gate_dst (N := 100) rfl ?_); refine wpList_load_row rfl 36 (.tmp 1) rfl w.heap.size rfl 36 _ (0, 0) _ H1.out hu36 rfl (by kernel_rfl) ?_))
                        refine (row_any _ _ _ _ _ _ _ _ _ _ _ _ _ _ _ _ _ _ _ _ _ _ _ _ _ _ _ _ 53 ⟨#[110, 97, 109, 101, 32, 119, 105, 116, 104, 111, 117, 116, 32, 112, 97, 115, 115, 119, 111, 114, 100]⟩ W1 HT1.out n hn _ (Lib.hid (by first | rfl | omega))).mono ?_
                        rintro en w1 ⟨rfl, b1⟩
                        rw [← HKV.out]
                        have h2 := H2.out.below b1 H2.out.lt
                        have B1 := Lib.hid (HB1.out.trans (b1.mono HB1.out.size))
                        have l2 := h2.lt
                        have s0 := (h2.cell 0).trans rfl
                        have t0 := h2.free 0
                        have s1 := (h2.cell 1).trans rfl
                        have t1 := h2.free 1
                        have s2 := (h2.cell 2).trans rfl
                        have t2 := h2.free 2
                        have s3 := (h2.cell 3).trans rfl
                        have t3 := h2.free 3
                        have s4 := (h2.cell 4).trans rfl
                        have t4 := h2.free 4
                        have s5 := (h2.cell 5).trans rfl
                        have t5 := h2.free 5
                        have s6 := (h2.cell 6).trans rfl
                        have t6 := h2.free 6
                        have s7 := (h2.cell 7).trans rfl
                        have t7 := h2.free 7
                        have s8 := (h2.cell 8).trans rfl
                        have t8 := h2.free 8
                        have s9 := (h2.cell 9).trans rfl
                        have t9 := h2.free 9
                        have H3 := Lib.hid h2
                        clear h2 b1
                        go_wp2_with fail
                        have hF := fin10 H3.out B1.out (Nat.le_succ _) id kv 53 ⟨#[]⟩ ⟨#[110, 97, 109, 101, 32, 119, 105, 116, 104, 111, 117, 116, 32, 112, 97, 115, 115, 119, 111, 114, 100]⟩
                        refine bodyPost_ret (results_row_tmp (p := 2) (u := 3) (ty := 42) ?h0 _ _ (w.heap.size + 1) 42 _ _ (.bool true) ?hp ?hv hF.1 Tryd.underlying42 ?hd ?sz) rfl ?_
                        case h0 => rfl
                        case hp => rfl
                        case hv => rfl
                        case hd => rfl
                        case sz => kernel_rfl
                        rw [HE.out, ← HKH.out.2 ht]
                        exact ⟨rfl, hF.2⟩
                    · have e : refS id (n : Int) ver meth pw bn ctl = ((id, toOf (n : Int), 49, ⟨#[97, 110, 111, 110, 121, 109, 111, 117, 115, 32, 111, 110, 108, 121]⟩), true) := by
                        unfold refS boundS
                        rw [if_pos ht, if_neg HA.out, if_pos c0, if_pos d1, if_pos d2, if_neg d3]
                      have HE := Lib.hid e
                      clear e
                      have d3b0 : (pw.toList == ([] : List UInt8)) = false := beq_eq_false_iff_ne.mpr d3
                      have d3b1 : (pw.toList != ([] : List UInt8)) = true := bne_iff_ne.mpr d3
                      clear d3
                      go_wp2_with (first | ((with_reducible refine gate_dst (N := 34) rfl ?_); refine wpList_load_row rfl 36 (.tmp 1) rfl w.heap.size rfl 36 _ (0, 0) _ H1.out hu36 rfl (by kernel_rfl) ?_) | ((with_reducible refine gate_dst (N := 48) rfl ?_); refine wpList_load_row rfl 36 (.tmp 1) rfl w.heap.size rfl 36 _ (0, 0) _ H1.out hu36 rfl (by kernel_rfl) ?_) | ((with_reducible refine gate_dst (N := 54) rfl ?_); refine wpList_load_row rfl 36 (.tmp 1) rfl w.heap.size rfl 36 _ (0, 0) _ H1.out hu36 rfl (by kernel_rfl) ?_) | ((with_reducible refine gate_dst (N := 60) rfl ?_); refine wpList_load_row rfl 36 (.tmp 1) rfl w.heap.size rfl 36 _ (0, 0) _ H1.out hu36 rfl (by kernel_rfl) ?_) | ((with_reducible refine gate_dst (N := 69) rfl ?_); refine wpList_load_row rfl 36 (.tmp 1) rfl w.heap.size rfl 36 _ (0, 0) _ H1.out hu36 rfl (by kernel_rfl) ?_) | ((with_reducible refine gate_dst (N := 78) rfl ?_); refine wpList_load_row rfl 36 (.tmp 1) rfl w.heap.size rfl 36 _ (0, 0) _ H1.out hu36 rfl (by kernel_rfl) ?_) | ((with_reducible refine gate_dst (N := 87) rfl ?_); refine wpList_load_row rfl 36 (.tmp 1) rfl w.heap.size rfl 36 _ (0, 0) _ H1.out hu36 rfl (by kernel_rfl) ?_) | ((with_reducible refine gate_dst (N := 96) rfl ?_); refine wpList_load_row rfl 36 (.tmp 1) rfl w.heap.size rfl 36 _ (0, 0) _ H1.out hu36 rfl (by kernel_rfl) ?_) | ((with_reducible refine gate_dst (N := 100) rfl ?_); refine wpList_load_row rfl 36 (.tmp 1) rfl w.heap.size rfl 36 _ (0, 0) _ H1.out hu36 rfl (by kernel_rfl) ?_))
                      refine (row_any _ _ _ _ _ _ _ _ _ _ _ _ _ _ _ _ _ _ _ _ _ _ _ _ _ _ _ _ 49 ⟨#[97, 110, 111, 110, 121, 109, 111, 117, 115, 32, 111, 110, 108, 121]⟩ W1 HT1.out n hn _ (Lib.hid (by first | rfl | omega))).mono ?_
                      rintro en w1 ⟨rfl, b1⟩
                      rw [← HKV.out]
                      have h2 := H2.out.below b1 H2.out.lt
                      have B1 := Lib.hid (HB1.out.trans (b1.mono HB1.out.size))
                      have l2 := h2.lt
                      have s0 := (h2.cell 0).trans rfl
                      have t0 := h2.free 0
                      have s1 := (h2.cell 1).trans rfl
                      have t1 := h2.free 1
                      have s2 := (h2.cell 2).trans rfl
                      have t2 := h2.free 2
                      have s3 := (h2.cell 3).trans rfl
                      have t3 := h2.free 3
                      have s4 := (h2.cell 4).trans rfl
                      have t4 := h2.free 4
                      have s5 := (h2.cell 5).trans rfl
                      have t5 := h2.free 5
                      have s6 := (h2.cell 6).trans rfl
                      have t6 := h2.free 6
                      have s7 := (h2.cell 7).trans rfl
                      have t7 := h2.free 7
                      have s8 := (h2.cell 8).trans rfl
                      have t8 := h2.free 8
                      have s9 := (h2.cell 9).trans rfl
                      have t9 := h2.free 9
                      have H3 := Lib.hid h2
                      clear h2 b1
                      go_wp2_with fail
                      have hF := fin10 H3.out B1.out (Nat.le_succ _) id kv 49 ⟨#[]⟩ ⟨#[97, 110, 111, 110, 121, 109, 111, 117, 115, 32, 111, 110, 108, 121]⟩
                      refine bodyPost_ret (results_row_tmp (p := 2) (u := 3) (ty := 42) ?h0 _ _ (w.heap.size + 1) 42 _ _ (.bool true) ?hp ?hv hF.1 Tryd.underlying42 ?hd ?sz) rfl ?_
                      case h0 => rfl
                      case hp => rfl
                      case hv => rfl
                      case hd => rfl
                      case sz => kernel_rfl
                      rw [HE.out, ← HKH.out.2 ht]
                      exact ⟨rfl, hF.2⟩
                  · have e : refS id (n : Int) ver meth pw bn ctl = ((id, toOf (n : Int), 7, ⟨#[115, 105, 109, 112, 108, 101, 32, 111, 110, 108, 121]⟩), true) := by
                      unfold refS boundS
                      rw [if_pos ht, if_neg HA.out, if_pos c0, if_pos d1, if_neg d2]
                    have HE := Lib.hid e
                    clear e
                    go_wp2_with (first | ((with_reducible refine gate_dst (N := 34) rfl ?_); refine wpList_load_row rfl 36 (.tmp 1) rfl w.heap.size rfl 36 _ (0, 0) _ H1.out hu36 rfl (by kernel_rfl) ?_) | ((with_reducible refine gate_dst (N := 48) rfl ?_); refine wpList_load_row rfl 36 (.tmp 1) rfl w.heap.size rfl 36 _ (0, 0) _ H1.out hu36 rfl (by kernel_rfl) ?_) | ((with_reducible refine gate_dst (N := 54) rfl ?_); refine wpList_load_row rfl 36 (.tmp 1) rfl w.heap.size rfl 36 _ (0, 0) _ H1.out hu36 rfl (by kernel_rfl) ?_) | ((with_reducible refine gate_dst (N := 60) rfl ?_); refine wpList_load_row rfl 36 (.tmp 1) rfl w.heap.size rfl 36 _ (0, 0) _ H1.out hu36 rfl (by kernel_rfl) ?_) | ((with_reducible refine gate_dst (N := 69) rfl ?_); refine wpList_load_row rfl 36 (.tmp 1) rfl w.heap.size rfl 36 _ (0, 0) _ H1.out hu36 rfl (by kernel_rfl) ?_) | ((with_reducible refine gate_dst (N := 78) rfl ?_); refine wpList_load_row rfl 36 (.tmp 1) rfl w.heap.size rfl 36 _ (0, 0) _ H1.out hu36 rfl (by kernel_rfl) ?_) | ((with_reducible refine gate_dst (N := 87) rfl ?_); refine wpList_load_row rfl 36 (.tmp 1) rfl w.heap.size rfl 36 _ (0, 0) _ H1.out hu36 rfl (by kernel_rfl) ?_) | ((with_reducible refine gate_dst (N := 96) rfl ?_); refine wpList_load_row rfl 36 (.tmp 1) rfl w.heap.size rfl 36 _ (0, 0) _ H1.out hu36 rfl (by kernel_rfl) ?_) | ((with_reducible refine gate_dst (N := 100) rfl ?_); refine wpList_load_row rfl 36 (.tmp 1) rfl w.heap.size rfl 36 _ (0, 0) _ H1.out hu36 rfl (by kernel_rfl) ?_))
                    refine (row_any _ _ _ _ _ _ _ _ _ _ _ _ _ _ _ _ _ _ _ _ _ _ _ _ _ _ _ _ 7 ⟨#[115, 105, 109, 112, 108, 101, 32, 111, 110, 108, 121]⟩ W1 HT1.out n hn _ (Lib.hid (by first | rfl | omega))).mono ?_
                    rintro en w1 ⟨rfl, b1⟩
                    rw [← HKV.out]
                    have h2 := H2.out.below b1 H2.out.lt
                    have B1 := Lib.hid (HB1.out.trans (b1.mono HB1.out.size))
                    have l2 := h2.lt
                    have s0 := (h2.cell 0).trans rfl
                    have t0 := h2.free 0
                    have s1 := (h2.cell 1).trans rfl
                    have t1 := h2.free 1
                    have s2 := (h2.cell 2).trans rfl
                    have t2 := h2.free 2
                    have s3 := (h2.cell 3).trans rfl
                    have t3 := h2.free 3
                    have s4 := (h2.cell 4).trans rfl
                    have t4 := h2.free 4
                    have s5 := (h2.cell 5).trans rfl
                    have t5 := h2.free 5
                    have s6 := (h2.cell 6).trans rfl
                    have t6 := h2.free 6
                    have s7 := (h2.cell 7).trans rfl
                    have t7 := h2.free 7
                    have s8 := (h2.cell 8).trans rfl
                    have t8 := h2.free 8
                    have s9 := (h2.cell 9).trans rfl
                    have t9 := h2.free 9
                    have H3 := Lib.hid h2
                    clear h2 b1
                    go_wp2_with fail
                    have hF := fin10 H3.out B1.out (Nat.le_succ _) id kv 7 ⟨#[]⟩ ⟨#[115, 105, 109, 112, 108, 101, 32, 111, 110, 108, 121]⟩
                    refine bodyPost_ret (results_row_tmp (p := 2) (u := 3) (ty := 42) ?h0 _ _ (w.heap.size + 1) 42 _ _ (.bool true) ?hp ?hv hF.1 Tryd.underlying42 ?hd ?sz) rfl ?_
                    case h0 => rfl
                    case hp => rfl
                    case hv => rfl
                    case hd => rfl
                    case sz => kernel_rfl
                    rw [HE.out, ← HKH.out.2 ht]
                    exact ⟨rfl, hF.2⟩
                · have e : refS id (n : Int) ver meth pw bn ctl = ((id, toOf (n : Int), 2, ⟨#[118, 101, 114, 115, 105, 111, 110, 32, 51, 32, 111, 110, 108, 121]⟩), true) := by
                    unfold refS boundS
                    rw [if_pos ht, if_neg HA.out, if_pos c0, if_neg d1]
                  have HE := Lib.hid e
                  clear e
                  go_wp2_with (first | ((with_reducible refine gate_dst (N := 34) rfl ?_); refine wpList_load_row rfl 36 (.tmp 1) rfl w.heap.size rfl 36 _ (0, 0) _ H1.out hu36 rfl (by kernel_rfl) ?_) | ((with_reducible refine gate_dst (N := 48) rfl ?_); refine wpList_load_row rfl 36 (.tmp 1) rfl w.heap.size rfl 36 _ (0, 0) _ H1.out hu36 rfl (by kernel_rfl) ?_) | ((with_reducible refine gate_dst (N := 54) rfl ?_); refine wpList_load_row rfl 36 (.tmp 1) rfl w.heap.size rfl 36 _ (0, 0) _ H1.out hu36 rfl (by kernel_rfl) ?_) | ((with_reducible refine gate_dst (N := 60) rfl ?_); refine wpList_load_row rfl 36 (.tmp 1) rfl w.heap.size rfl 36 _ (0, 0) _ H1.out hu36 rfl (by kernel_rfl) ?_) | ((with_reducible refine gate_dst (N := 69) rfl ?_); refine wpList_load_row rfl 36 (.tmp 1) rfl w.heap.size rfl 36 _ (0, 0) _ H1.out hu36 rfl (by kernel_rfl) ?_) | ((with_reducible refine gate_dst (N := 78) rfl ?_); refine wpList_load_row rfl 36 (.tmp 1) rfl w.heap.size rfl 36 _ (0, 0) _ H1.out hu36 rfl (by kernel_rfl) ?_) | ((with_reducible refine gate_dst (N := 87) rfl ?_); refine wpList_load_row rfl 36 (.tmp 1) rfl w.heap.size rfl 36 _ (0, 0) _ H1.out hu36 rfl (by kernel_rfl) ?_) | ((with_reducible refine gate_dst (N := 96) rfl ?_); refine wpList_load_row rfl 36 (.tmp 1) rfl w.heap.size rfl 36 _ (0, 0) _ H1.out hu36 rfl (by kernel_rfl) ?_) | ((with_reducible refine gate_dst (N := 100) rfl ?_); refine wpList_load_row rfl 36 (.tmp 1) rfl w.heap.size rfl 36 _ (0, 0) _ H1.out hu36 rfl (by kernel_rfl) ?_))
                  refine (row_any _ _ _ _ _ _ _ _ _ _ _ _ _ _ _ _ _ _ _ _ _ _ _ _ _ _ _ _ 2 ⟨#[118, 101, 114, 115, 105, 111, 110, 32, 51, 32, 111, 110, 108, 121]⟩ W1 HT1.out n hn _ (Lib.hid (by first | rfl | omega))).mono ?_
                  rintro en w1 ⟨rfl, b1⟩
                  rw [← HKV.out]
                  have h2 := H2.out.below b1 H2.out.lt
                  have B1 := Lib.hid (HB1.out.trans (b1.mono HB1.out.size))
                  have l2 := h2.lt
                  have s0 := (h2.cell 0).trans rfl
                  have t0 := h2.free 0
                  have s1 := (h2.cell 1).trans rfl
                  have t1 := h2.free 1
                  have s2 := (h2.cell 2).trans rfl
                  have t2 := h2.free 2
                  have s3 := (h2.cell 3).trans rfl
                  have t3 := h2.free 3
                  have s4 := (h2.cell 4).trans rfl
                  have t4 := h2.free 4
                  have s5 := (h2.cell 5).trans rfl
                  have t5 := h2.free 5
                  have s6 := (h2.cell 6).trans rfl
                  have t6 := h2.free 6
                  have s7 := (h2.cell 7).trans rfl
                  have t7 := h2.free 7
                  have s8 := (h2.cell 8).trans rfl
                  have t8 := h2.free 8
                  have s9 := (h2.cell 9).trans rfl
                  have t9 := h2.free 9
                  have H3 := Lib.hid h2
                  clear h2 b1
                  go_wp2_with fail
                  have hF := fin10 H3.out B1.out (Nat.le_succ _) id kv 2 ⟨#[]⟩ ⟨#[118, 101, 114, 115, 105, 111, 110, 32, 51, 32, 111, 110, 108, 121]⟩
                  refine bodyPost_ret (results_row_tmp (p := 2) (u := 3) (ty := 42) ?h0 _ _ (w.heap.size + 1) 42 _ _ (.bool true) ?hp ?hv hF.1 Tryd.underlying42 ?hd ?sz) rfl ?_
                  case h0 => rfl
                  case hp => rfl
                  case hv => rfl
                  case hd => rfl
                  case sz => kernel_rfl
                  rw [HE.out, ← HKH.out.2 ht]
                  exact ⟨rfl, hF.2⟩
              · exact absurd HS.out.2 (by omega)
  · exact absurd ht (by rw [HS.out.2]; decide)
set_option maxRecDepth 100000 in
set_option maxHeartbeats 8000000 in
theorem rRef_c (id : Int) (ver : Int) (bn : ByteArray) (meth : Int) (pw : ByteArray) (mech : ByteArray) (cred : ByteArray) (hcr : Bool) (base : ByteArray) (scope : Int) (deref : Int) (szl : Int) (tml : Int) (tyo : Bool) (vF : Value) (vA : Value) (name : ByteArray) (vC : Value) (vT : Value) (rdn : ByteArray) (dold : Bool) (sup : ByteArray) (hsup : Bool) (desc : ByteArray) (val : ByteArray) (hval : Bool) (aban : Int) (A28 : Option Addr) (c28 : Nat) (ctl : List S52) (w : World) (hT : TabR w) (hC : Kd.C k52 w A28 ctl.length ctl) (hc : ctl.length ≤ c28) (hl : ctl.length ≤ 1048576) (n : Nat) (hn : n < 10) (hsel : ¬ (ctl.any (fun c => c.f1) = true) ∧ ((n : Int) = 3 ∨ (n : Int) = 4 ∨ (n : Int) = 5 ∨ (n : Int) = 6)) :
    Calls Tryd.prog 4 #[.agg #[.int .i64 id, .int .i64 (n : Int), .int .i64 ver, .string bn, .int .i64 meth, .string pw, .string mech, .string cred, .bool hcr, .string base, .int .i64 scope, .int .i64 deref, .int .i64 szl, .int .i64 tml, .bool tyo, vF, vA, .string name, vC, vT, .string rdn, .bool dold, .string sup, .bool hsup, .string desc, .string val, .bool hval, .int .i64 aban, .slice A28 ctl.length c28]] w fun e w' => e = .returned (.tuple #[repV (refS id (n : Int) ver meth pw bn ctl).1, .bool (refS id (n : Int) ver meth pw bn ctl).2]) ∧ Below w.heap.size w w' := by
  have hu36 := Tryd.underlying36
  have hu42 := Tryd.underlying42
  have HS := Lib.hid hsel
  clear hsel
  have HT := Lib.hid hT
  have HC := Lib.hid hC
  clear hT hC
  have kh := kinds_has n hn
  obtain ⟨kv, hkv⟩ : ∃ x, x = kindsL.getD n 0 := ⟨_, rfl⟩
  rw [← hkv] at kh
  have HKV := Lib.hid hkv
  have HKH := Lib.hid kh
  clear hkv kh
  go_enter Tryd.func4, Tryd.ntmps4
  go_upto_region 1 with fail
  refine gen2 (G := fun W => Code.wp _ _ _ _ W) ?_
  intro W1 b1 z1 h1 h2
  have hk0 := (HT.out.below b1 (Nat.le_refl _)).kinds n hn
  rw [← HKV.out] at hk0
  have x1 := (h1.cell 1).trans rfl
  have x2 := (h1.cell 2).trans rfl
  have x3 := (h1.cell 3).trans rfl
  have x4 := (h1.cell 4).trans rfl
  have x5 := (h1.cell 5).trans rfl
  have x28 := (h1.cell 28).trans rfl
  have q0 : (0 : Int) ≤ n := by omega
  have q1 : (n : Int) < 10 := by omega
  have HT1 := Lib.hid (HT.out.below b1 (Nat.le_refl _))
  have HB1 := Lib.hid b1
  have H1 := Lib.hid h1
  have H2 := Lib.hid h2
  clear b1 h1 h2 z1
  by_cases ht : hasTo (n : Int) = true
  · have kv0 : ¬ (kv < 0) := Int.not_lt.2 (HKH.out.1.2 ht)
    go_wp2_with fail
    clear hk0 kv0
    go_loopw [4] (fun v wr => ∃ i : Nat, v = .int .i64 i ∧ i ≤ ctl.length ∧ Hid (∀ j : Nat, j < i → (rd_T52 ctl j).f1 = false) ∧ wr = W1) (fun v _ => ctl.length - (intOf v).toNat)
    case atStart => exact ⟨0, rfl, Nat.zero_le _, Lib.hid (fun j hj => absurd hj (Nat.not_lt_zero j)), by first | rfl | trivial⟩
    case round =>
      obtain ⟨i, rfl, hi, HN, hw⟩ := hrel
      rw [hw]
      clear hw
      by_cases hil : i < ctl.length
      · have p : (0 : Int) ≤ i := by omega
        have q : (i : Int) < ctl.length := by omega
        obtain ⟨ad, rfl, y0, y1, y2, y3⟩ := at_T52 (Kd.C_below HC.out HB1.out) (i : Int) p q
        rw [Int.toNat_natCast] at y0 y1 y2 y3
        obtain ⟨cc, hcc⟩ : ∃ c, c = rd_T52 ctl (i : Int) := ⟨_, rfl⟩
        rw [← hcc] at y0 y1 y2 y3
        have HCC := Lib.hid hcc
        clear hcc
        cases hcr1 : cc.f1 with
        | false =>
          rw [hcr1] at y1
          go_wp2_with fail
          go_roundw
          case rel => exact ⟨i + 1, by go_num, by omega, Lib.hid (fun j hj => by
            rcases Nat.lt_succ_iff_lt_or_eq.1 hj with h | rfl
            · exact HN.out j h
            · rw [← HCC.out]; exact hcr1), by first | rfl | trivial⟩
          case measure => simp [intOf]; omega
        | true =>
          rw [hcr1] at y1
          exact absurd (any_some ctl i hil (by rw [← HCC.out]; exact hcr1)) HS.out.1
      · obtain rfl : i = ctl.length := by omega
        have HA := Lib.hid (show ¬ (ctl.any (fun c => c.f1) = true) by rw [any_none ctl HN.out]; decide)
        clear HN
        by_cases c2 : (n : Int) = 2
        · exact absurd HS.out.2 (by omega)
        · by_cases c7 : (n : Int) = 7
          · exact absurd HS.out.2 (by omega)
          · by_cases c9 : (n : Int) = 9
            · exact absurd HS.out.2 (by omega)
            · by_cases c0 : (n : Int) = 0
              · exact absurd HS.out.2 (by omega)
              · rcases mid_kinds n hn ht c0 c2 c7 c9 with c3 | c3 | c3 | c3
                · have e : refS id (n : Int) ver meth pw bn ctl = ((id, toOf (n : Int), 53, ⟨#[114, 101, 97, 100, 32, 111, 110, 108, 121]⟩), true) := by
                    unfold refS boundS
                    rw [if_pos ht, if_neg HA.out, if_neg c0, if_neg c2, if_neg c7, if_neg c9]
                  have HE := Lib.hid e
                  clear e
                  go_wp2_with (first | ((with_reducible refine gate_dst (N := 34) rfl ?_); refine wpList_load_row rfl 36 (.tmp 1) rfl w.heap.size rfl 36 _ (0, 0) _ H1.out hu36 rfl (by kernel_rfl) ?_) | ((with_reducible refine gate_dst (N := 48) rfl ?_); refine wpList_load_row rfl 36 (.tmp 1) rfl w.heap.size rfl 36 _ (0, 0) _ H1.out hu36 rfl (by kernel_rfl) ?_) | ((with_reducible refine gate_dst (N := 54) rfl ?_); refine wpList_load_row rfl 36 (.tmp 1) rfl w.heap.size rfl 36 _ (0, 0) _ H1.out hu36 rfl (by kernel_rfl) ?_) | ((with_reducible refine gate_dst (N := 60) rfl ?_); refine wpList_load_row rfl 36 (.tmp 1) rfl w.heap.size rfl 36 _ (0, 0) _ H1.out hu36 rfl (by kernel_rfl) ?_) | ((with_reducible refine gate_dst (N := 69) rfl ?_); refine wpList_load_row rfl 36 (.tmp 1) rfl w.heap.size rfl 36 _ (0, 0) _ H1.out hu36 rfl (by kernel_rfl) ?_) | ((with_reducible refine gate_dst (N := 78) rfl ?_); refine wpList_load_row rfl 36 (.tmp 1) rfl w.heap.size rfl 36 _ (0, 0) _ H1.out hu36 rfl (by kernel_rfl) ?_) | ((with_reducible refine gate_dst (N := 87) rfl ?_); refine wpList_load_row rfl 36 (.tmp 1) rfl w.heap.size rfl 36 _ (0, 0) _ H1.out hu36 rfl (by kernel_rfl) ?_) | ((with_reducible refine gate_dst (N := 96) rfl ?_); refine wpList_load_row rfl 36 (.tmp 1) rfl w.heap.size rfl 36 _ (0, 0) _ H1.out hu36 rfl (by kernel_rfl) ?_) | ((with_reducible refine gate_dst (N := 100) rfl ?_); refine wpList_load_row rfl 36 (.tmp 1) rfl w.heap.size rfl 36 _ (0, 0) _ H1.out hu36 rfl (by kernel_rfl) ?_))
                  refine (row_any _ _ _ _ _ _ _ _ _ _ _ _ _ _ _ _ _ _ _ _ _ _ _ _ _ _ _ _ 53 ⟨#[114, 101, 97, 100, 32, 111, 110, 108, 121]⟩ W1 HT1.out n hn _ (Lib.hid (by first | rfl | omega))).mono ?_
                  rintro en w1 ⟨rfl, b1⟩
                  rw [← HKV.out]
                  have h2 := H2.out.below b1 H2.out.lt
                  have B1 := Lib.hid (HB1.out.trans (b1.mono HB1.out.size))
                  have l2 := h2.lt
                  have s0 := (h2.cell 0).trans rfl
                  have t0 := h2.free 0
                  have s1 := (h2.cell 1).trans rfl
                  have t1 := h2.free 1
                  have s2 := (h2.cell 2).trans rfl
                  have t2 := h2.free 2
                  have s3 := (h2.cell 3).trans rfl
                  have t3 := h2.free 3
                  have s4 := (h2.cell 4).trans rfl
                  have t4 := h2.free 4
                  have s5 := (h2.cell 5).trans rfl
                  have t5 := h2.free 5
                  have s6 := (h2.cell 6).trans rfl
                  have t6 := h2.free 6
                  have s7 := (h2.cell 7).trans rfl
                  have t7 := h2.free 7
                  have s8 := (h2.cell 8).trans rfl
                  have t8 := h2.free 8
                  have s9 := (h2.cell 9).trans rfl
                  have t9 := h2.free 9
                  have H3 := Lib.hid h2
                  clear h2 b1
                  go_wp2_with fail
                  have hF := fin10 H3.out B1.out (Nat.le_succ _) id kv 53 ⟨#[]⟩ ⟨#[114, 101, 97, 100, 32, 111, 110, 108, 121]⟩
                  refine bodyPost_ret (results_row_tmp (p := 2) (u := 3) (ty := 42) ?h0 _ _ (w.heap.size + 1) 42 _ _ (.bool true) ?hp ?hv hF.1 Tryd.underlying42 ?hd ?sz) rfl ?_
                  case h0 => rfl
                  case hp => rfl
                  case hv => rfl
                  case hd => rfl
                  case sz => kernel_rfl
                  rw [HE.out, ← HKH.out.2 ht]
                  exact ⟨rfl, hF.2⟩
                · have e : refS id (n : Int) ver meth pw bn ctl = ((id, toOf (n : Int), 53, ⟨#[114, 101, 97, 100, 32, 111, 110, 108, 121]⟩), true) := by
                    unfold refS boundS
                    rw [if_pos ht, if_neg HA.out, if_neg c0, if_neg c2, if_neg c7, if_neg c9]
                  have HE := Lib.hid e
                  clear e
                  go_wp2_with (first | ((with_reducible refine gate_dst (N := 34) rfl ?_); refine wpList_load_row rfl 36 (.tmp 1) rfl w.heap.size rfl 36 _ (0, 0) _ H1.out hu36 rfl (by kernel_rfl) ?_) | ((with_reducible refine gate_dst (N := 48) rfl ?_); refine wpList_load_row rfl 36 (.tmp 1) rfl w.heap.size rfl 36 _ (0, 0) _ H1.out hu36 rfl (by kernel_rfl) ?_) | ((with_reducible refine gate_dst (N := 54) rfl ?_); refine wpList_load_row rfl 36 (.tmp 1) rfl w.heap.size rfl 36 _ (0, 0) _ H1.out hu36 rfl (by kernel_rfl) ?_) | ((with_reducible refine gate_dst (N := 60) rfl ?_); refine wpList_load_row rfl 36 (.tmp 1) rfl w.heap.size rfl 36 _ (0, 0) _ H1.out hu36 rfl (by kernel_rfl) ?_) | ((with_reducible refine gate_dst (N := 69) rfl ?_); refine wpList_load_row rfl 36 (.tmp 1) rfl w.heap.size rfl 36 _ (0, 0) _ H1.out hu36 rfl (by kernel_rfl) ?_) | ((with_reducible refine gate_dst (N := 78) rfl ?_); refine wpList_load_row rfl 36 (.tmp 1) rfl w.heap.size rfl 36 _ (0, 0) _ H1.out hu36 rfl (by kernel_rfl) ?_) | ((with_reducible refine gate_dst (N := 87) rfl ?_); refine wpList_load_row rfl 36 (.tmp 1) rfl w.heap.size rfl 36 _ (0, 0) _ H1.out hu36 rfl (by kernel_rfl) ?_) | ((with_reducible refine gate_dst (N := 96) rfl ?_); refine wpList_load_row rfl 36 (.tmp 1) rfl w.heap.size rfl 36 _ (0, 0) _ H1.out hu36 rfl (by kernel_rfl) ?_) | ((with_reducible refine gate_dst (N := 100) rfl ?_); refine wpList_load_row rfl 36 (.tmp 1) rfl w.heap.size rfl 36 _ (0, 0) _ H1.out hu36 rfl (by kernel_rfl) ?_))
                  refine (row_any _ _ _ _ _ _ _ _ _ _ _ _ _ _ _ _ _ _ _ _ _ _ _ _ _ _ _ _ 53 ⟨#[114, 101, 97, 100, 32, 111, 110, 108, 121]⟩ W1 HT1.out n hn _ (Lib.hid (by first | rfl | omega))).mono ?_
                  rintro en w1 ⟨rfl, b1⟩
                  rw [← HKV.out]
                  have h2 := H2.out.below b1 H2.out.lt
                  have B1 := Lib.hid (HB1.out.trans (b1.mono HB1.out.size))
                  have l2 := h2.lt
                  have s0 := (h2.cell 0).trans rfl
                  have t0 := h2.free 0
                  have s1 := (h2.cell 1).trans rfl
                  have t1 := h2.free 1
                  have s2 := (h2.cell 2).trans rfl
                  have t2 := h2.free 2
                  have s3 := (h2.cell 3).trans rfl
                  have t3 := h2.free 3
                  have s4 := (h2.cell 4).trans rfl
                  have t4 := h2.free 4
                  have s5 := (h2.cell 5).trans rfl
                  have t5 := h2.free 5
                  have s6 := (h2.cell 6).trans rfl
                  have t6 := h2.free 6
                  have s7 := (h2.cell 7).trans rfl
                  have t7 := h2.free 7
                  have s8 := (h2.cell 8).trans rfl
                  have t8 := h2.free 8
                  have s9 := (h2.cell 9).trans rfl
                  have t9 := h2.free 9
                  have H3 := Lib.hid h2
                  clear h2 b1
                  go_wp2_with fail
                  have hF := fin10 H3.out B1.out (Nat.le_succ _) id kv 53 ⟨#[]⟩ ⟨#[114, 101, 97, 100, 32, 111, 110, 108, 121]⟩
                  refine bodyPost_ret (results_row_tmp (p := 2) (u := 3) (ty := 42) ?h0 _ _ (w.heap.size + 1) 42 _ _ (.bool true) ?hp ?hv hF.1 Tryd.underlying42 ?hd ?sz) rfl ?_
                  case h0 => rfl
                  case hp => rfl
                  case hv => rfl
                  case hd => rfl
                  case sz => kernel_rfl
                  rw [HE.out, ← HKH.out.2 ht]
                  exact ⟨rfl, hF.2⟩
                · have e : refS id (n : Int) ver meth pw bn ctl = ((id, toOf (n : Int), 53, ⟨#[114, 101, 97, 100, 32, 111, 110, 108, 121]⟩), true) := by
                    unfold refS boundS
                    rw [if_pos ht, if_neg HA.out, if_neg c0, if_neg c2, if_neg c7, if_neg c9]
                  have HE := Lib.hid e
                  clear e
                  go_wp2_with (first | ((with_reducible refine gate_dst (N := 34) rfl ?_); refine wpList_load_row rfl 36 (.tmp 1) rfl w.heap.size rfl 36 _ (0, 0) _ H1.out hu36 rfl (by kernel_rfl) ?_) | ((with_reducible refine gate_dst (N := 48) rfl ?_); refine wpList_load_row rfl 36 (.tmp 1) rfl w.heap.size rfl 36 _ (0, 0) _ H1.out hu36 rfl (by kernel_rfl) ?_) | ((with_reducible refine gate_dst (N := 54) rfl ?_); refine wpList_load_row rfl 36 (.tmp 1) rfl w.heap.size rfl 36 _ (0, 0) _ H1.out hu36 rfl (by kernel_rfl) ?_) | ((with_reducible refine gate_dst (N := 60) rfl ?_); refine wpList_load_row rfl 36 (.tmp 1) rfl w.heap.size rfl 36 _ (0, 0) _ H1.out hu36 rfl (by kernel_rfl) ?_) | ((with_reducible refine gate_dst (N := 69) rfl ?_); refine wpList_load_row rfl 36 (.tmp 1) rfl w.heap.size rfl 36 _ (0, 0) _ H1.out hu36 rfl (by kernel_rfl) ?_) | ((with_reducible refine gate_dst (N := 78) rfl ?_); refine wpList_load_row rfl 36 (.tmp 1) rfl w.heap.size rfl 36 _ (0, 0) _ H1.out hu36 rfl (by kernel_rfl) ?_) | ((with_reducible refine gate_dst (N := 87) rfl ?_); refine wpList_load_row rfl 36 (.tmp 1) rfl w.heap.size rfl 36 _ (0, 0) _ H1.out hu36 rfl (by kernel_rfl) ?_) | ((with_reducible refine gate_dst (N := 96) rfl ?_); refine wpList_load_row rfl 36 (.tmp 1) rfl w.heap.size rfl 36 _ (0, 0) _ H1.out hu36 rfl (by kernel_rfl) ?_) | ((with_reducible refine gate_dst (N := 100) rfl ?_); refine wpList_load_row rfl 36 (.tmp 1) rfl w.heap.size rfl 36 _ (0, 0) _ H1.out hu36 rfl (by kernel_rfl) ?_))
                  refine (row_any _ _ _ _ _ _ _ _ _ _ _ _ _ _ _ _ _ _ _ _ _ _ _ _ _ _ _ _ 53 ⟨#[114, 101, 97, 100, 32, 111, 110, 108, 121]⟩ W1 HT1.out n hn _ (Lib.hid (by first | rfl | omega))).mono ?_
                  rintro en w1 ⟨rfl, b1⟩
                  rw [← HKV.out]
                  have h2 := H2.out.below b1 H2.out.lt
                  have B1 := Lib.hid (HB1.out.trans (b1.mono HB1.out.size))
                  have l2 := h2.lt
                  have s0 := (h2.cell 0).trans rfl
                  have t0 := h2.free 0
                  have s1 := (h2.cell 1).trans rfl
                  have t1 := h2.free 1
                  have s2 := (h2.cell 2).trans rfl
                  have t2 := h2.free 2
                  have s3 := (h2.cell 3).trans rfl
                  have t3 := h2.free 3
                  have s4 := (h2.cell 4).trans rfl
                  have t4 := h2.free 4
                  have s5 := (h2.cell 5).trans rfl
                  have t5 := h2.free 5
                  have s6 := (h2.cell 6).trans rfl
                  have t6 := h2.free 6
                  have s7 := (h2.cell 7).trans rfl
                  have t7 := h2.free 7
                  have s8 := (h2.cell 8).trans rfl
                  have t8 := h2.free 8
                  have s9 := (h2.cell 9).trans rfl
                  have t9 := h2.free 9
                  have H3 := Lib.hid h2
                  clear h2 b1
                  go_wp2_with fail
                  have hF := fin10 H3.out B1.out (Nat.le_succ _) id kv 53 ⟨#[]⟩ ⟨#[114, 101, 97, 100, 32, 111, 110, 108, 121]⟩
                  refine bodyPost_ret (results_row_tmp (p := 2) (u := 3) (ty := 42) ?h0 _ _ (w.heap.size + 1) 42 _ _ (.bool true) ?hp ?hv hF.1 Tryd.underlying42 ?hd ?sz) rfl ?_
                  case h0 => rfl
                  case hp => rfl
                  case hv => rfl
                  case hd => rfl
                  case sz => kernel_rfl
                  rw [HE.out, ← HKH.out.2 ht]
                  exact ⟨rfl, hF.2⟩
                · have e : refS id (n : Int) ver meth pw bn ctl = ((id, toOf (n : Int), 53, ⟨#[114, 101, 97, 100, 32, 111, 110, 108, 121]⟩), true) := by
                    unfold refS boundS
                    rw [if_pos ht, if_neg HA.out, if_neg c0, if_neg c2, if_neg c7, if_neg c9]
                  have HE := Lib.hid e
                  clear e
                  go_wp2_with (first | ((with_reducible refine gate_dst (N := 34) rfl ?_); refine wpList_load_row rfl 36 (.tmp 1) rfl w.heap.size rfl 36 _ (0, 0) _ H1.out hu36 rfl (by kernel_rfl) ?_) | ((with_reducible refine gate_dst (N := 48) rfl ?_); refine wpList_load_row rfl 36 (.tmp 1) rfl w.heap.size rfl 36 _ (0, 0) _ H1.out hu36 rfl (by kernel_rfl) ?_) | ((with_reducible refine gate_dst (N := 54) rfl ?_); refine wpList_load_row rfl 36 (.tmp 1) rfl w.heap.size rfl 36 _ (0, 0) _ H1.out hu36 rfl (by kernel_rfl) ?_) | ((with_reducible refine gate_dst (N := 60) rfl ?_); refine wpList_load_row rfl 36 (.tmp 1) rfl w.heap.size rfl 36 _ (0, 0) _ H1.out hu36 rfl (by kernel_rfl) ?_) | ((with_reducible refine gate_dst (N := 69) rfl ?_); refine wpList_load_row rfl 36 (.tmp 1) rfl w.heap.size rfl 36 _ (0, 0) _ H1.out hu36 rfl (by kernel_rfl) ?_) | ((with_reducible refine gate_dst (N := 78) rfl ?_); refine wpList_load_row rfl 36 (.tmp 1) rfl w.heap.size rfl 36 _ (0, 0) _ H1.out hu36 rfl (by kernel_rfl) ?_) | ((with_reducible refine gate_dst (N := 87) rfl ?_); refine wpList_load_row rfl 36 (.tmp 1) rfl w.heap.size rfl 36 _ (0, 0) _ H1.out hu36 rfl (by kernel_rfl) ?_) | ((with_reducible refine gate_dst (N := 96) rfl ?_); refine wpList_load_row rfl 36 (.tmp 1) rfl w.heap.size rfl 36 _ (0, 0) _ H1.out hu36 rfl (by kernel_rfl) ?_) | ((with_reducible refine gate_dst (N := 100) rfl ?_); refine wpList_load_row rfl 36 (.tmp 1) rfl w.heap.size rfl 36 _ (0, 0) _ H1.out hu36 rfl (by kernel_rfl) ?_))
                  refine (row_any _ _ _ _ _ _ _ _ _ _ _ _ _ _ _ _ _ _ _ _ _ _ _ _ _ _ _ _ 53 ⟨#[114, 101, 97, 100, 32, 111, 110, 108, 121]⟩ W1 HT1.out n hn _ (Lib.hid (by first | rfl | omega))).mono ?_
                  rintro en w1 ⟨rfl, b1⟩
                  rw [← HKV.out]
                  have h2 := H2.out.below b1 H2.out.lt
                  have B1 := Lib.hid (HB1.out.trans (b1.mono HB1.out.size))
                  have l2 := h2.lt
                  have s0 := (h2.cell 0).trans rfl
                  have t0 := h2.free 0
                  have s1 := (h2.cell 1).trans rfl
                  have t1 := h2.free 1
                  have s2 := (h2.cell 2).trans rfl
                  have t2 := h2.free 2
                  have s3 := (h2.cell 3).trans rfl
                  have t3 := h2.free 3
                  have s4 := (h2.cell 4).trans rfl
                  have t4 := h2.free 4
                  have s5 := (h2.cell 5).trans rfl
                  have t5 := h2.free 5
                  have s6 := (h2.cell 6).trans rfl
                  have t6 := h2.free 6
                  have s7 := (h2.cell 7).trans rfl
                  have t7 := h2.free 7
                  have s8 := (h2.cell 8).trans rfl
                  have t8 := h2.free 8
                  have s9 := (h2.cell 9).trans rfl
                  have t9 := h2.free 9
                  have H3 := Lib.hid h2
                  clear h2 b1
                  go_wp2_with fail
                  have hF := fin10 H3.out B1.out (Nat.le_succ _) id kv 53 ⟨#[]⟩ ⟨#[114, 101, 97, 100, 32, 111, 110, 108, 121]⟩
                  refine bodyPost_ret (results_row_tmp (p := 2) (u := 3) (ty := 42) ?h0 _ _ (w.heap.size + 1) 42 _ _ (.bool true) ?hp ?hv hF.1 Tryd.underlying42 ?hd ?sz) rfl ?_
                  case h0 => rfl
                  case hp => rfl
                  case hv => rfl
                  case hd => rfl
                  case sz => kernel_rfl
                  rw [HE.out, ← HKH.out.2 ht]
                  exact ⟨rfl, hF.2⟩
  · exact absurd ht (by rcases HS.out.2 with h | h | h | h <;> rw [h] <;> decide)
set_option maxRecDepth 100000 in
set_option maxHeartbeats 8000000 in
theorem rRef_one (id : Int) (ver : Int) (bn : ByteArray) (meth : Int) (pw : ByteArray) (mech : ByteArray) (cred : ByteArray) (hcr : Bool) (base : ByteArray) (scope : Int) (deref : Int) (szl : Int) (tml : Int) (tyo : Bool) (vF : Value) (vA : Value) (name : ByteArray) (vC : Value) (vT : Value) (rdn : ByteArray) (dold : Bool) (sup : ByteArray) (hsup : Bool) (desc : ByteArray) (val : ByteArray) (hval : Bool) (aban : Int) (A28 : Option Addr) (c28 : Nat) (ctl : List S52) (w : World) (hT : TabR w) (hC : Kd.C k52 w A28 ctl.length ctl) (hc : ctl.length ≤ c28) (hl : ctl.length ≤ 1048576) (n : Nat) (hn : n < 10) (hsel : ¬ hasTo (n : Int) = true) :
    Calls Tryd.prog 4 #[.agg #[.int .i64 id, .int .i64 (n : Int), .int .i64 ver, .string bn, .int .i64 meth, .string pw, .string mech, .string cred, .bool hcr, .string base, .int .i64 scope, .int .i64 deref, .int .i64 szl, .int .i64 tml, .bool tyo, vF, vA, .string name, vC, vT, .string rdn, .bool dold, .string sup, .bool hsup, .string desc, .string val, .bool hval, .int .i64 aban, .slice A28 ctl.length c28]] w fun e w' => e = .returned (.tuple #[repV (refS id (n : Int) ver meth pw bn ctl).1, .bool (refS id (n : Int) ver meth pw bn ctl).2]) ∧ Below w.heap.size w w' := by
  have hu36 := Tryd.underlying36
  have hu42 := Tryd.underlying42
  have HS := Lib.hid hsel
  clear hsel
  have HT := Lib.hid hT
  have HC := Lib.hid hC
  clear hT hC
  have kh := kinds_has n hn
  obtain ⟨kv, hkv⟩ : ∃ x, x = kindsL.getD n 0 := ⟨_, rfl⟩
  rw [← hkv] at kh
  have HKV := Lib.hid hkv
  have HKH := Lib.hid kh
  clear hkv kh
  go_enter Tryd.func4, Tryd.ntmps4
  go_upto_region 1 with fail
  refine gen2 (G := fun W => Code.wp _ _ _ _ W) ?_
  intro W1 b1 z1 h1 h2
  have hk0 := (HT.out.below b1 (Nat.le_refl _)).kinds n hn
  rw [← HKV.out] at hk0
  have x1 := (h1.cell 1).trans rfl
  have q0 : (0 : Int) ≤ n := by omega
  have q1 : (n : Int) < 10 := by omega
  have HT1 := Lib.hid (HT.out.below b1 (Nat.le_refl _))
  have HB1 := Lib.hid b1
  have H1 := Lib.hid h1
  have H2 := Lib.hid h2
  clear b1 h1 h2 z1
  have ht := HS.out
  have kv0 : kv < 0 := Int.not_le.1 (fun h => ht (HKH.out.1.1 h))
  have e : refS id (n : Int) ver meth pw bn ctl = ((0, 0, 0, ⟨#[]⟩), false) := by
    unfold refS
    rw [if_neg ht]
  have HE := Lib.hid e
  have h2 := H2.out
  have l2 := h2.lt
  have s0 := (h2.cell 0).trans rfl
  have t0 := h2.free 0
  have s1 := (h2.cell 1).trans rfl
  have t1 := h2.free 1
  have s2 := (h2.cell 2).trans rfl
  have t2 := h2.free 2
  have s3 := (h2.cell 3).trans rfl
  have t3 := h2.free 3
  have s4 := (h2.cell 4).trans rfl
  have t4 := h2.free 4
  have s5 := (h2.cell 5).trans rfl
  have t5 := h2.free 5
  have s6 := (h2.cell 6).trans rfl
  have t6 := h2.free 6
  have s7 := (h2.cell 7).trans rfl
  have t7 := h2.free 7
  have s8 := (h2.cell 8).trans rfl
  have t8 := h2.free 8
  have s9 := (h2.cell 9).trans rfl
  have t9 := h2.free 9
  clear e h2
  go_wp2_with fail
  have hF := fin10 H2.out HB1.out (Nat.le_succ _) 0 0 0 ⟨#[]⟩ ⟨#[]⟩
  refine bodyPost_ret (results_row_tmp (p := 2) (u := 3) (ty := 42) ?h0 _ _ (w.heap.size + 1) 42 _ _ (.bool false) ?hp ?hv hF.1 Tryd.underlying42 ?hd ?sz) rfl ?_
  case h0 => rfl
  case hp => rfl
  case hv => rfl
  case hd => rfl
  case sz => kernel_rfl
  rw [HE.out]
  exact ⟨rfl, hF.2⟩
theorem rRef_any (id : Int) (ver : Int) (bn : ByteArray) (meth : Int) (pw : ByteArray) (mech : ByteArray) (cred : ByteArray) (hcr : Bool) (base : ByteArray) (scope : Int) (deref : Int) (szl : Int) (tml : Int) (tyo : Bool) (vF : Value) (vA : Value) (name : ByteArray) (vC : Value) (vT : Value) (rdn : ByteArray) (dold : Bool) (sup : ByteArray) (hsup : Bool) (desc : ByteArray) (val : ByteArray) (hval : Bool) (aban : Int) (A28 : Option Addr) (c28 : Nat) (ctl : List S52) (w : World) (hT : TabR w) (hC : Kd.C k52 w A28 ctl.length ctl) (hc : ctl.length ≤ c28) (hl : ctl.length ≤ 1048576) (n : Nat) (hn : n < 10) :
    Calls Tryd.prog 4 #[.agg #[.int .i64 id, .int .i64 (n : Int), .int .i64 ver, .string bn, .int .i64 meth, .string pw, .string mech, .string cred, .bool hcr, .string base, .int .i64 scope, .int .i64 deref, .int .i64 szl, .int .i64 tml, .bool tyo, vF, vA, .string name, vC, vT, .string rdn, .bool dold, .string sup, .bool hsup, .string desc, .string val, .bool hval, .int .i64 aban, .slice A28 ctl.length c28]] w fun e w' => e = .returned (.tuple #[repV (refS id (n : Int) ver meth pw bn ctl).1, .bool (refS id (n : Int) ver meth pw bn ctl).2]) ∧ Below w.heap.size w w' := by
  by_cases h : ctl.any (fun c => c.f1) = true
  · exact rRef_crit id ver bn meth pw mech cred hcr base scope deref szl tml tyo vF vA name vC vT rdn dold sup hsup desc val hval aban A28 c28 ctl w hT hC hc hl n hn h
  · match n, hn with
    | 0, hn => exact rRef_b id ver bn meth pw mech cred hcr base scope deref szl tml tyo vF vA name vC vT rdn dold sup hsup desc val hval aban A28 c28 ctl w hT hC hc hl 0 hn ⟨h, rfl⟩
    | 1, hn => exact rRef_one id ver bn meth pw mech cred hcr base scope deref szl tml tyo vF vA name vC vT rdn dold sup hsup desc val hval aban A28 c28 ctl w hT hC hc hl 1 hn (by decide)
    | 2, hn => exact rRef_a id ver bn meth pw mech cred hcr base scope deref szl tml tyo vF vA name vC vT rdn dold sup hsup desc val hval aban A28 c28 ctl w hT hC hc hl 2 hn ⟨h, .inl rfl⟩
    | 3, hn => exact rRef_c id ver bn meth pw mech cred hcr base scope deref szl tml tyo vF vA name vC vT rdn dold sup hsup desc val hval aban A28 c28 ctl w hT hC hc hl 3 hn ⟨h, .inl rfl⟩
    | 4, hn => exact rRef_c id ver bn meth pw mech cred hcr base scope deref szl tml tyo vF vA name vC vT rdn dold sup hsup desc val hval aban A28 c28 ctl w hT hC hc hl 4 hn ⟨h, .inr (.inl rfl)⟩
    | 5, hn => exact rRef_c id ver bn meth pw mech cred hcr base scope deref szl tml tyo vF vA name vC vT rdn dold sup hsup desc val hval aban A28 c28 ctl w hT hC hc hl 5 hn ⟨h, .inr (.inr (.inl rfl))⟩
    | 6, hn => exact rRef_c id ver bn meth pw mech cred hcr base scope deref szl tml tyo vF vA name vC vT rdn dold sup hsup desc val hval aban A28 c28 ctl w hT hC hc hl 6 hn ⟨h, .inr (.inr (.inr rfl))⟩
    | 7, hn => exact rRef_a id ver bn meth pw mech cred hcr base scope deref szl tml tyo vF vA name vC vT rdn dold sup hsup desc val hval aban A28 c28 ctl w hT hC hc hl 7 hn ⟨h, .inr (.inl rfl)⟩
    | 8, hn => exact rRef_one id ver bn meth pw mech cred hcr base scope deref szl tml tyo vF vA name vC vT rdn dold sup hsup desc val hval aban A28 c28 ctl w hT hC hc hl 8 hn (by decide)
    | 9, hn => exact rRef_a id ver bn meth pw mech cred hcr base scope deref szl tml tyo vF vA name vC vT rdn dold sup hsup desc val hval aban A28 c28 ctl w hT hC hc hl 9 hn ⟨h, .inr (.inr rfl)⟩
end Go.Proofs.YtbpediccbeoifaaDoor.W
