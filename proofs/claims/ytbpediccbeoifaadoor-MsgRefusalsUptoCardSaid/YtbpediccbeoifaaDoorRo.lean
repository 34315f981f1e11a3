/- The document's refusals, of every kind. -/
import Derived.Test.YtbpediccbeoifaaDoorRr
namespace Go.Proofs.YtbpediccbeoifaaDoor.W
open Go.RowKit Go.Proofs.YtbpediccbeoifaaDoorW.PrintWords Go.Proofs.YtbpediccbeoifaaDoorW.PrintLast Go.Proofs.YtbpediccbeoifaaDoor.GN
set_option linter.unusedVariables false
set_option linter.unusedSimpArgs false
theorem hasTo_out {k : Int} (h : k < 0 ∨ 9 < k) : hasTo k = false := by
  unfold hasTo
  have h0 : (k == 0) = false := by simp; omega
  have h2 : (k == 2) = false := by simp; omega
  have h3 : (k == 3) = false := by simp; omega
  have h4 : (k == 4) = false := by simp; omega
  have h5 : (k == 5) = false := by simp; omega
  have h6 : (k == 6) = false := by simp; omega
  have h7 : (k == 7) = false := by simp; omega
  have h9 : (k == 9) = false := by simp; omega
  rw [h0, h2, h3, h4, h5, h6, h7, h9]
  rfl
set_option maxRecDepth 100000 in
set_option maxHeartbeats 8000000 in
theorem rRef_out (id : Int) (k : Int) (ver : Int) (bn : ByteArray) (meth : Int) (pw : ByteArray) (mech : ByteArray) (cred : ByteArray) (hcr : Bool) (base : ByteArray) (scope : Int) (deref : Int) (szl : Int) (tml : Int) (tyo : Bool) (vF : Value) (vA : Value) (name : ByteArray) (vC : Value) (vT : Value) (rdn : ByteArray) (dold : Bool) (sup : ByteArray) (hsup : Bool) (desc : ByteArray) (val : ByteArray) (hval : Bool) (aban : Int) (A28 : Option Addr) (c28 : Nat) (ctl : List S52) (w : World) (hk : k < 0 ∨ 9 < k) :
    Calls Tryd.prog 4 #[.agg #[.int .i64 id, .int .i64 k, .int .i64 ver, .string bn, .int .i64 meth, .string pw, .string mech, .string cred, .bool hcr, .string base, .int .i64 scope, .int .i64 deref, .int .i64 szl, .int .i64 tml, .bool tyo, vF, vA, .string name, vC, vT, .string rdn, .bool dold, .string sup, .bool hsup, .string desc, .string val, .bool hval, .int .i64 aban, .slice A28 ctl.length c28]] w fun e w' => e = .returned (.tuple #[repV (refS id k ver meth pw bn ctl).1, .bool (refS id k ver meth pw bn ctl).2]) ∧ Below w.heap.size w w' := by
  have hu36 := Tryd.underlying36
  have hu42 := Tryd.underlying42
  have e : refS id k ver meth pw bn ctl = ((0, 0, 0, ⟨#[]⟩), false) := by
    unfold refS
    rw [hasTo_out hk, if_neg Bool.false_ne_true]
  have HE := Lib.hid e
  clear e
  go_enter Tryd.func4, Tryd.ntmps4
  go_upto_region 1 with fail
  refine gen2 (G := fun W => Code.wp _ _ _ _ W) ?_
  intro W1 b1 z1 h1 h2
  have x1 := (h1.cell 1).trans rfl
  have s0 := (h2.cell 0).trans rfl
  have t0 := h2.free 0
  have s1 := (h2.cell 1).trans rfl
  have t1 := h2.free 1
  have s2 := (h2.cell 2).trans rfl
  have t2 := h2.free 2
  have s3 := (h2.cell 3).trans rfl
  have t3 := h2.free 3
  have s4 := (h2.cell 4).trans rfl
  have t4 := h2.free 4
  have s5 := (h2.cell 5).trans rfl
  have t5 := h2.free 5
  have s6 := (h2.cell 6).trans rfl
  have t6 := h2.free 6
  have s7 := (h2.cell 7).trans rfl
  have t7 := h2.free 7
  have s8 := (h2.cell 8).trans rfl
  have t8 := h2.free 8
  have s9 := (h2.cell 9).trans rfl
  have t9 := h2.free 9
  have l2 := h2.lt
  have HB1 := Lib.hid b1
  have H2 := Lib.hid h2
  clear b1 h1 h2 z1
  rcases hk with hk | hk
  · have hk2 : ¬ (9 < k) := by omega
    go_wp2_with fail
    have hF := fin10 H2.out HB1.out (Nat.le_succ _) 0 0 0 ⟨#[]⟩ ⟨#[]⟩
    refine bodyPost_ret (results_row_tmp (p := 2) (u := 3) (ty := 42) ?h0 _ _ (w.heap.size + 1) 42 _ _ (.bool false) ?hp ?hv hF.1 Tryd.underlying42 ?hd ?sz) rfl ?_
    case h0 => rfl
    case hp => rfl
    case hv => rfl
    case hd => rfl
    case sz => kernel_rfl
    rw [HE.out]
    exact ⟨rfl, hF.2⟩
  · have hk2 : ¬ (k < 0) := by omega
    go_wp2_with fail
    have hF := fin10 H2.out HB1.out (Nat.le_succ _) 0 0 0 ⟨#[]⟩ ⟨#[]⟩
    refine bodyPost_ret (results_row_tmp (p := 2) (u := 3) (ty := 42) ?h0 _ _ (w.heap.size + 1) 42 _ _ (.bool false) ?hp ?hv hF.1 Tryd.underlying42 ?hd ?sz) rfl ?_
    case h0 => rfl
    case hp => rfl
    case hv => rfl
    case hd => rfl
    case sz => kernel_rfl
    rw [HE.out]
    exact ⟨rfl, hF.2⟩
theorem rRef_all (id : Int) (k : Int) (ver : Int) (bn : ByteArray) (meth : Int) (pw : ByteArray) (mech : ByteArray) (cred : ByteArray) (hcr : Bool) (base : ByteArray) (scope : Int) (deref : Int) (szl : Int) (tml : Int) (tyo : Bool) (vF : Value) (vA : Value) (name : ByteArray) (vC : Value) (vT : Value) (rdn : ByteArray) (dold : Bool) (sup : ByteArray) (hsup : Bool) (desc : ByteArray) (val : ByteArray) (hval : Bool) (aban : Int) (A28 : Option Addr) (c28 : Nat) (ctl : List S52) (w : World) (hT : TabR w) (hC : Kd.C k52 w A28 ctl.length ctl) (hc : ctl.length ≤ c28) (hl : ctl.length ≤ 1048576) :
    Calls Tryd.prog 4 #[.agg #[.int .i64 id, .int .i64 k, .int .i64 ver, .string bn, .int .i64 meth, .string pw, .string mech, .string cred, .bool hcr, .string base, .int .i64 scope, .int .i64 deref, .int .i64 szl, .int .i64 tml, .bool tyo, vF, vA, .string name, vC, vT, .string rdn, .bool dold, .string sup, .bool hsup, .string desc, .string val, .bool hval, .int .i64 aban, .slice A28 ctl.length c28]] w fun e w' => e = .returned (.tuple #[repV (refS id k ver meth pw bn ctl).1, .bool (refS id k ver meth pw bn ctl).2]) ∧ Below w.heap.size w w' := by
  by_cases h : k < 0 ∨ 9 < k
  · exact rRef_out id k ver bn meth pw mech cred hcr base scope deref szl tml tyo vF vA name vC vT rdn dold sup hsup desc val hval aban A28 c28 ctl w h
  · obtain ⟨n, rfl⟩ : ∃ n : Nat, k = n := ⟨k.toNat, by omega⟩
    exact rRef_any id ver bn meth pw mech cred hcr base scope deref szl tml tyo vF vA name vC vT rdn dold sup hsup desc val hval aban A28 c28 ctl w hT hC hc hl n (by omega)
end Go.Proofs.YtbpediccbeoifaaDoor.W
