/- Is the copy still the request, the marks too: walked. -/
import Derived.Test.YtbpediccbeoifaaDoorSq
import Derived.Test.YtbpediccbeoifaaDoorSm
import Derived.Laws.Tables
import Derived.Laws.Rows
namespace Go.Proofs.YtbpediccbeoifaaDoor.W
open Go.RowKit Go.Proofs.YtbpediccbeoifaaDoorW.PrintWords Go.Proofs.YtbpediccbeoifaaDoorW.PrintLast Go.Proofs.YtbpediccbeoifaaDoor.GN
set_option linter.unusedVariables false
set_option linter.unusedSimpArgs false
theorem Own.below {w w' : World} {lF : List S71} {AF : Option Addr} {cF : Nat} {lA : List ByteArray} {AA : Option Addr} {cA : Nat} {lC : List S73} {AC : Option Addr} {cC : Nat} {lT : List S75} {AT : Option Addr} {cT : Nat} {lL : List S52} {AL : Option Addr} {cL : Nat}
    (h : Own w lF AF cF lA AA cA lC AC cC lT AT cT lL AL cL) (hb : Below w.heap.size w w') : Own w' lF AF cF lA AA cA lC AC cC lT AT cT lL AL cL :=
  ⟨h.lf, Kd.C_below h.f hb, h.la, Kd.C_below h.a hb, h.lc, Kd.C_below h.c hb, h.lt, Kd.C_below h.t hb, h.ll, Kd.C_below h.l hb⟩
theorem e_allM (n c : Nat) (h1 : n ≤ 1048576) (h2 : n + 1 ≤ c) : wrap64 ((n : Int) + 1) = (n : Int) + 1 ∧ (0 : Int) ≤ (n : Int) + 1 ∧ (n : Int) + 1 ≤ c ∧ (n : Int) < (n : Int) + 1 ∧ (0 : Int) ≤ (n : Int) := ⟨by unfold wrap64; omega, by omega, by omega, by omega, by omega⟩
set_option maxRecDepth 100000 in
set_option maxHeartbeats 8000000 in
theorem kept_any (id : Int) (k : Int) (ver : Int) (bn : ByteArray) (meth : Int) (pw : ByteArray) (mech : ByteArray) (cred : ByteArray) (hcr : Bool) (base : ByteArray) (scope : Int) (deref : Int) (szl : Int) (tml : Int) (tyo : Bool) (AF : Option Addr) (cF : Nat) (lF : List S71) (AA : Option Addr) (cA : Nat) (lA : List ByteArray) (name : ByteArray) (AC : Option Addr) (cC : Nat) (lC : List S73) (AT : Option Addr) (cT : Nat) (lT : List S75) (rdn : ByteArray) (dold : Bool) (sup : ByteArray) (hsup : Bool) (desc : ByteArray) (val : ByteArray) (hval : Bool) (aban : Int) (AL : Option Addr) (cL : Nat) (lL : List S52) (BF : Option Addr) (dF : Nat) (BA : Option Addr) (dA : Nat) (BC : Option Addr) (dC : Nat) (BT : Option Addr) (dT : Nat) (BL : Option Addr) (dL : Nat) (w : World)
    (hF : Kd.C k71 w AF lF.length lF) (gF : lF.length ≤ cF) (nF : lF.length ≤ 1048576) (xF : ∀ x ∈ lF, x.f4.f1.length ≤ 1048576)
    (hA : Kd.C Kd.string w AA lA.length lA) (gA : lA.length ≤ cA) (nA : lA.length ≤ 1048576)
    (hC : Kd.C k73 w AC lC.length lC) (gC : lC.length ≤ cC) (nC : lC.length ≤ 1048576) (xC : ∀ x ∈ lC, x.f2.length ≤ 1048576)
    (hT : Kd.C k75 w AT lT.length lT) (gT : lT.length ≤ cT) (nT : lT.length ≤ 1048576) (xT : ∀ x ∈ lT, x.f2.length ≤ 1048576)
    (hL : Kd.C k52 w AL lL.length lL) (gL : lL.length ≤ cL) (nL : lL.length ≤ 1048576)
    (hO : Own w lF BF dF lA BA dA lC BC dC lT BT dT lL BL dL) :
    Calls Tryd.prog 8 #[.agg #[.int .i64 id, .int .i64 k, .int .i64 ver, .string bn, .int .i64 meth, .string pw, .string mech, .string cred, .bool hcr, .string base, .int .i64 scope, .int .i64 deref, .int .i64 szl, .int .i64 tml, .bool tyo, .slice BF lF.length dF, .slice BA lA.length dA, .string name, .slice BC lC.length dC, .slice BT lT.length dT, .string rdn, .bool dold, .string sup, .bool hsup, .string desc, .string val, .bool hval, .int .i64 aban, .slice BL lL.length dL], .agg #[.int .i64 id, .int .i64 k, .int .i64 ver, .string bn, .int .i64 meth, .string pw, .string mech, .string cred, .bool hcr, .string base, .int .i64 scope, .int .i64 deref, .int .i64 szl, .int .i64 tml, .bool tyo, .slice AF lF.length cF, .slice AA lA.length cA, .string name, .slice AC lC.length cC, .slice AT lT.length cT, .string rdn, .bool dold, .string sup, .bool hsup, .string desc, .string val, .bool hval, .int .i64 aban, .slice AL lL.length cL]] w fun en w' => en = .returned (.bool true) ∧ Below w.heap.size w w' := by
  have hu36 := Tryd.underlying36
  have HF := Lib.hid hF
  have HA := Lib.hid hA
  have HC := Lib.hid hC
  have HT := Lib.hid hT
  have HL := Lib.hid hL
  have HO := Lib.hid hO
  have HSR := Lib.hid (SameRequest_f id k ver bn meth pw mech cred hcr base scope deref szl tml tyo lF lA name lC lT rdn dold sup hsup desc val hval aban lL nF xF nA nC xC nT xT nL 6000000 (Nat.le_refl _))
  have HXF := Lib.hid xF
  have HXC := Lib.hid xC
  have HXT := Lib.hid xT
  clear hF hA hC hT hL xF xC xT hO
  go_enter Tryd.func8, Tryd.ntmps8
  go_upto_region 1 with fail
  refine gen2 (G := fun W => Code.wp _ _ _ _ W) ?_
  intro W1 b1 z1 h1 h2
  have HB := Lib.hid b1
  have HK := Lib.hid h1
  have HR := Lib.hid h2
  have hz : w.heap.size ≤ W1.heap.size := by omega
  have HO1 := Lib.hid (HO.out.below b1)
  clear b1 h1 h2 z1 HO
  go_wp2_with (first
    | ((with_reducible refine gate_dst (N := 11) rfl ?_); refine wpList_load_row rfl 36 (.tmp 2) rfl w.heap.size rfl 36 #[.int .i64 id, .int .i64 k, .int .i64 ver, .string bn, .int .i64 meth, .string pw, .string mech, .string cred, .bool hcr, .string base, .int .i64 scope, .int .i64 deref, .int .i64 szl, .int .i64 tml, .bool tyo, .slice BF lF.length dF, .slice BA lA.length dA, .string name, .slice BC lC.length dC, .slice BT lT.length dT, .string rdn, .bool dold, .string sup, .bool hsup, .string desc, .string val, .bool hval, .int .i64 aban, .slice BL lL.length dL] (0, 0) _ HK.out hu36 rfl (by kernel_rfl) ?_)
    | ((with_reducible refine gate_dst (N := 12) rfl ?_); refine wpList_load_row rfl 36 (.tmp 3) rfl (w.heap.size + 1) rfl 36 #[.int .i64 id, .int .i64 k, .int .i64 ver, .string bn, .int .i64 meth, .string pw, .string mech, .string cred, .bool hcr, .string base, .int .i64 scope, .int .i64 deref, .int .i64 szl, .int .i64 tml, .bool tyo, .slice AF lF.length cF, .slice AA lA.length cA, .string name, .slice AC lC.length cC, .slice AT lT.length cT, .string rdn, .bool dold, .string sup, .bool hsup, .string desc, .string val, .bool hval, .int .i64 aban, .slice AL lL.length cL] (0, 0) _ HR.out hu36 rfl (by kernel_rfl) ?_))
  refine (rosterref13_SameRequest.calls 6000000 id k ver bn meth pw mech cred hcr base scope deref szl tml tyo BF dF lF BA dA lA name BC dC lC BT dT lT rdn dold sup hsup desc val hval aban BL dL lL id k ver bn meth pw mech cred hcr base scope deref szl tml tyo AF cF lF AA cA lA name AC cC lC AT cT lT rdn dold sup hsup desc val hval aban AL cL lL true W1 (room_F HO1.out.f) (Nat.le_of_succ_le HO1.out.lf) (C_pre HO1.out.a) (Nat.le_of_succ_le HO1.out.la) (room_C HO1.out.c) (Nat.le_of_succ_le HO1.out.lc) (room_T HO1.out.t) (Nat.le_of_succ_le HO1.out.lt) (C_pre HO1.out.l) (Nat.le_of_succ_le HO1.out.ll) (Kd.C_below HF.out HB.out) gF (Kd.C_below HA.out HB.out) gA (Kd.C_below HC.out HB.out) gC (Kd.C_below HT.out HB.out) gT (Kd.C_below HL.out HB.out) gL HSR.out).mono ?_
  rintro en w2 ⟨rfl, hb⟩
  have HO2 := Lib.hid (HO1.out.below hb)
  have hk := HK.out.below hb HK.out.lt
  have y15 := (hk.cell 15).trans rfl
  have y16 := (hk.cell 16).trans rfl
  have y18 := (hk.cell 18).trans rfl
  have y19 := (hk.cell 19).trans rfl
  have y28 := (hk.cell 28).trans rfl
  have HB2 := Lib.hid (HB.out.trans (hb.mono hz))
  clear hb hk HO1 HK HR HB HSR HF HA HC HT HL
  go_wp2_with fail
  refine (spares_any lA BA dA w2 (by rw [List.length_append]; exact HO2.out.la) (by rw [List.length_append]; exact HO2.out.a) nA).mono ?_
  rintro en w3 ⟨rfl, hw⟩
  rw [hw]
  clear hw
  go_wp2_with fail
  refine (sparesAttrs_any lT BT dT w2 HO2.out.lt HO2.out.t nT HXT.out).mono ?_
  rintro en w4 ⟨rfl, hw⟩
  rw [hw]
  clear hw
  go_wp2_with fail
  refine (sparesControls_any lL BL dL w2 HO2.out.ll HO2.out.l nL).mono ?_
  rintro en w5 ⟨rfl, hw⟩
  rw [hw]
  clear hw
  obtain ⟨aF, hbf, _⟩ := HO2.out.f.2.2 (by omega)
  obtain ⟨aC, hbc, _⟩ := HO2.out.c.2.2 (by omega)
  subst hbf hbc
  clear gF gA gC gT gL nA nT nL hz
  have z0 := F_last HO2.out.f
  go_upto_region 4 with fail
  obtain ⟨p0, p1, p2, p3, p4⟩ := e_allM lF.length dF nF HO2.out.lf
  go_wp2_with fail
  go_loopw [7] (fun v wr => ∃ i : Nat, v = .int .i64 i ∧ i ≤ lF.length ∧ wr = w2) (fun v _ => lF.length - (intOf v).toNat)
  case atStart => exact ⟨0, rfl, Nat.zero_le _, by first | rfl | trivial⟩
  case round =>
    obtain ⟨i, rfl, hi, hw⟩ := hrel
    rw [hw]
    clear hw
    by_cases hil : i < lF.length
    · have p : (0 : Int) ≤ i := by omega
      have q : (i : Int) < lF.length := by omega
      obtain ⟨A', c', x2, hl', hC'⟩ := F_at HO2.out.f i hil
      have hx' := HXF.out lF[i] (List.getElem_mem _)
      have HL' := Lib.hid hl'
      have HC' := Lib.hid hC'
      clear hl' hC'
      go_wp2_with fail
      refine (spares_any lF[i].f4.f1 A' c' _ HL'.out HC'.out hx').mono ?_
      rintro en w6 ⟨rfl, hw⟩
      rw [hw]
      clear hw x2
      go_wp2
      go_roundw
      case rel => exact ⟨i + 1, by go_num, by omega, by first | rfl | trivial⟩
      case measure => simp [intOf]; omega
    · obtain rfl : i = lF.length := by omega
      obtain ⟨q0, q1, q2, q3, q4⟩ := e_allM lC.length dC nC HO2.out.lc
      have z1 := C_last HO2.out.c
      go_wp2_with fail
      go_loopw [10] (fun v wr => ∃ i : Nat, v = .int .i64 i ∧ i ≤ lC.length ∧ wr = w2) (fun v _ => lC.length - (intOf v).toNat)
      case atStart => exact ⟨0, rfl, Nat.zero_le _, by first | rfl | trivial⟩
      case round =>
        obtain ⟨i, rfl, hi, hw⟩ := hrel
        rw [hw]
        clear hw
        by_cases hil : i < lC.length
        · have p : (0 : Int) ≤ i := by omega
          have q : (i : Int) < lC.length := by omega
          obtain ⟨A', c', x2, hl', hC'⟩ := C_at HO2.out.c i hil
          have hx' := HXC.out lC[i] (List.getElem_mem _)
          have HL' := Lib.hid hl'
          have HC' := Lib.hid hC'
          clear hl' hC'
          go_wp2_with fail
          refine (spares_any lC[i].f2 A' c' _ HL'.out HC'.out hx').mono ?_
          rintro en w6 ⟨rfl, hw⟩
          rw [hw]
          clear hw x2
          go_wp2
          go_roundw
          case rel => exact ⟨i + 1, by go_num, by omega, by first | rfl | trivial⟩
          case measure => simp [intOf]; omega
        · obtain rfl : i = lC.length := by omega
          go_wp2_with fail
          go_ret
          exact ⟨rfl, HB2.out⟩
end Go.Proofs.YtbpediccbeoifaaDoor.W
