/- Refusals of requests (msg, the document's): walked. -/
import Derived.Test.YtbpediccbeoifaaDoorTk
import Derived.Lib.Hide
import Derived.Laws.ResultCell
import Derived.Test.YtbpediccbeoifaaDoorEm
import Derived.Test.YtbpediccbeoifaaDoorGNx9
namespace Go.Proofs.YtbpediccbeoifaaDoor.W
open Go.RowKit Go.Proofs.YtbpediccbeoifaaDoorW.PrintWords Go.Proofs.YtbpediccbeoifaaDoorW.PrintLast Go.Proofs.YtbpediccbeoifaaDoor.GN
set_option linter.unusedVariables false
set_option linter.unusedSimpArgs false
def txt (l : List UInt8) : ByteArray := ⟨l.toArray⟩
/-- The code and the text of a bind's answer. -/
def boundS (ver meth : Int) (pw bn : ByteArray) : Int × ByteArray :=
  if ver = 3 then if meth = 0 then if pw.toList = [] then if bn.toList = [] then (0, ⟨#[]⟩) else (53, ⟨#[110, 97, 109, 101, 32, 119, 105, 116, 104, 111, 117, 116, 32, 112, 97, 115, 115, 119, 111, 114, 100]⟩) else (49, ⟨#[97, 110, 111, 110, 121, 109, 111, 117, 115, 32, 111, 110, 108, 121]⟩) else (7, ⟨#[115, 105, 109, 112, 108, 101, 32, 111, 110, 108, 121]⟩) else (2, ⟨#[118, 101, 114, 115, 105, 111, 110, 32, 51, 32, 111, 110, 108, 121]⟩)
/-- What is answered without a look at the snapshot: number, kind, code, text; whether there is an answer. -/
def refS (id k ver meth : Int) (pw bn : ByteArray) (ctl : List S52) : (Int × Int × Int × ByteArray) × Bool :=
  if hasTo k = true then
    if ctl.any (fun c => c.f1) = true then ((id, toOf k, 12, ⟨#[99, 114, 105, 116, 105, 99, 97, 108, 32, 99, 111, 110, 116, 114, 111, 108]⟩), true)
    else if k = 0 then ((id, toOf k, (boundS ver meth pw bn).1, (boundS ver meth pw bn).2), true)
    else if k = 2 then ((0, 0, 0, ⟨#[]⟩), false)
    else if k = 7 then ((id, toOf k, 53, ⟨#[110, 111, 32, 99, 111, 109, 112, 97, 114, 101]⟩), true)
    else if k = 9 then ((id, toOf k, 2, ⟨#[110, 111, 32, 115, 117, 99, 104, 32, 111, 112, 101, 114, 97, 116, 105, 111, 110]⟩), true)
    else ((id, toOf k, 53, ⟨#[114, 101, 97, 100, 32, 111, 110, 108, 121]⟩), true)
  else ((0, 0, 0, ⟨#[]⟩), false)
abbrev repV (r : Int × Int × Int × ByteArray) : Value := .agg #[.int .i64 r.1, .int .i64 r.2.1, .int .i64 r.2.2.1, .string ⟨#[]⟩, .string r.2.2.2, .string ⟨#[]⟩, .slice none 0 0, .string ⟨#[]⟩, .bool false, .slice none 0 0]

theorem results_row_tmp {P : Program} {fn : Func} {p u : Tmp} {ty : TypeId} (h : fn.results = #[.cell p ty, .tmp u]) (tmps : Array Value) (w : World) (g : Nat) (t : TypeId) (cs : Array Value) (d : TypeDesc) (v : Value)
    (hp : tmps.getD p undef = .pointer (some ⟨g, 0, none⟩)) (hv : tmps.getD u undef = v) (hg : At w g t cs)
    (hu : P.underlying ty = some d) (hd : (match d with | .struct _ | .array _ _ => true | _ => false) = true) (hi : (P.info? ty).map (·.size) = some cs.size) :
    (results fn tmps).run P w = .ok (.tuple #[.agg cs, v]) w := by
  subst hv
  rw [results_cell_tmp h, hp]
  simp [asAddr, run_loadVar_row w g t ty cs (0, 0) d hg hu hd hi, Result.andThen]
structure RW (w wr : World) (cs1 cs3 : Array Value) : Prop where
  a1 : At wr w.heap.size 36 cs1
  a2 : At wr (w.heap.size + 1) 42 #[.int .i64 0, .int .i64 0, .int .i64 0, .string ⟨#[]⟩, .string ⟨#[]⟩, .string ⟨#[]⟩, .slice none 0 0, .string ⟨#[]⟩, .bool false, .slice none 0 0]
  a3 : At wr (w.heap.size + 1 + 1) 42 cs3
  b : Below w.heap.size w wr
theorem RW.alloc {w wr : World} {cs1 cs3 : Array Value} (h : RW w wr cs1 cs3) (o : Obj) : RW w (wr.alloc o) cs1 cs3 := ⟨h.a1.alloc o, h.a2.alloc o, h.a3.alloc o, h.b.alloc h.b.size o⟩
theorem RW.below {w wr w' : World} {cs1 cs3 : Array Value} (h : RW w wr cs1 cs3) (hb : Below wr.heap.size wr w') : RW w w' cs1 cs3 := ⟨h.a1.below hb h.a1.lt, h.a2.below hb h.a2.lt, h.a3.below hb h.a3.lt, h.b.trans (hb.mono h.b.size)⟩
theorem RW.lt {w wr : World} {cs1 cs3 : Array Value} (h : RW w wr cs1 cs3) : w.heap.size + 3 ≤ wr.heap.size := h.a3.lt
/-- The end of an answer: the result's three cells are written, all ten are copied. -/
theorem fin {w wr : World} {cs1 cs3 : Array Value} (h : RW w wr cs1 cs3) (id kk cd : Int) (mt tx : ByteArray) :
    At (((((((((((((wr.setCell ⟨w.heap.size + 1 + 1, 2, none⟩ (.int .i64 cd)).setCell ⟨w.heap.size + 1 + 1, 3, none⟩ (.string mt)).setCell ⟨w.heap.size + 1 + 1, 4, none⟩ (.string tx)).setCell ⟨w.heap.size + 1, 0, none⟩ (.int .i64 id)).setCell ⟨w.heap.size + 1, 1, none⟩ (.int .i64 kk)).setCell ⟨w.heap.size + 1, 2, none⟩ (.int .i64 cd)).setCell ⟨w.heap.size + 1, 3, none⟩ (.string mt)).setCell ⟨w.heap.size + 1, 4, none⟩ (.string tx)).setCell ⟨w.heap.size + 1, 5, none⟩ (.string ⟨#[]⟩)).setCell ⟨w.heap.size + 1, 6, none⟩ (.slice none 0 0)).setCell ⟨w.heap.size + 1, 7, none⟩ (.string ⟨#[]⟩)).setCell ⟨w.heap.size + 1, 8, none⟩ (.bool false)).setCell ⟨w.heap.size + 1, 9, none⟩ (.slice none 0 0)) (w.heap.size + 1) 42 #[.int .i64 id, .int .i64 kk, .int .i64 cd, .string mt, .string tx, .string ⟨#[]⟩, .slice none 0 0, .string ⟨#[]⟩, .bool false, .slice none 0 0] ∧ Below w.heap.size w (((((((((((((wr.setCell ⟨w.heap.size + 1 + 1, 2, none⟩ (.int .i64 cd)).setCell ⟨w.heap.size + 1 + 1, 3, none⟩ (.string mt)).setCell ⟨w.heap.size + 1 + 1, 4, none⟩ (.string tx)).setCell ⟨w.heap.size + 1, 0, none⟩ (.int .i64 id)).setCell ⟨w.heap.size + 1, 1, none⟩ (.int .i64 kk)).setCell ⟨w.heap.size + 1, 2, none⟩ (.int .i64 cd)).setCell ⟨w.heap.size + 1, 3, none⟩ (.string mt)).setCell ⟨w.heap.size + 1, 4, none⟩ (.string tx)).setCell ⟨w.heap.size + 1, 5, none⟩ (.string ⟨#[]⟩)).setCell ⟨w.heap.size + 1, 6, none⟩ (.slice none 0 0)).setCell ⟨w.heap.size + 1, 7, none⟩ (.string ⟨#[]⟩)).setCell ⟨w.heap.size + 1, 8, none⟩ (.bool false)).setCell ⟨w.heap.size + 1, 9, none⟩ (.slice none 0 0)) := by
  have hne : w.heap.size + 1 ≠ w.heap.size + 1 + 1 := by omega
  refine ⟨?_, ?_⟩
  · have h1 := (((((((((((((h.a2.far (p := ⟨w.heap.size + 1 + 1, 2, none⟩) hne (.int .i64 cd)).far (p := ⟨w.heap.size + 1 + 1, 3, none⟩) hne (.string mt)).far (p := ⟨w.heap.size + 1 + 1, 4, none⟩) hne (.string tx)).set 0 (.int .i64 id)).set 1 (.int .i64 kk)).set 2 (.int .i64 cd)).set 3 (.string mt)).set 4 (.string tx)).set 5 (.string ⟨#[]⟩)).set 6 (.slice none 0 0)).set 7 (.string ⟨#[]⟩)).set 8 (.bool false)).set 9 (.slice none 0 0))
    exact h1.eq (by simp)
  · exact (((((((((((((h.b.setCell (by dsimp only; omega) _).setCell (by dsimp only; omega) _).setCell (by dsimp only; omega) _).setCell (by dsimp only; omega) _).setCell (by dsimp only; omega) _).setCell (by dsimp only; omega) _).setCell (by dsimp only; omega) _).setCell (by dsimp only; omega) _).setCell (by dsimp only; omega) _).setCell (by dsimp only; omega) _).setCell (by dsimp only; omega) _).setCell (by dsimp only; omega) _).setCell (by dsimp only; omega) _)
theorem finz {w wr : World} (h : At wr (w.heap.size + 1) 42 #[.int .i64 0, .int .i64 0, .int .i64 0, .string ⟨#[]⟩, .string ⟨#[]⟩, .string ⟨#[]⟩, .slice none 0 0, .string ⟨#[]⟩, .bool false, .slice none 0 0]) (hb : Below w.heap.size w wr) : At ((((((((((wr.setCell ⟨w.heap.size + 1, 0, none⟩ (.int .i64 0)).setCell ⟨w.heap.size + 1, 1, none⟩ (.int .i64 0)).setCell ⟨w.heap.size + 1, 2, none⟩ (.int .i64 0)).setCell ⟨w.heap.size + 1, 3, none⟩ (.string ⟨#[]⟩)).setCell ⟨w.heap.size + 1, 4, none⟩ (.string ⟨#[]⟩)).setCell ⟨w.heap.size + 1, 5, none⟩ (.string ⟨#[]⟩)).setCell ⟨w.heap.size + 1, 6, none⟩ (.slice none 0 0)).setCell ⟨w.heap.size + 1, 7, none⟩ (.string ⟨#[]⟩)).setCell ⟨w.heap.size + 1, 8, none⟩ (.bool false)).setCell ⟨w.heap.size + 1, 9, none⟩ (.slice none 0 0)) (w.heap.size + 1) 42 #[.int .i64 0, .int .i64 0, .int .i64 0, .string ⟨#[]⟩, .string ⟨#[]⟩, .string ⟨#[]⟩, .slice none 0 0, .string ⟨#[]⟩, .bool false, .slice none 0 0] ∧ Below w.heap.size w ((((((((((wr.setCell ⟨w.heap.size + 1, 0, none⟩ (.int .i64 0)).setCell ⟨w.heap.size + 1, 1, none⟩ (.int .i64 0)).setCell ⟨w.heap.size + 1, 2, none⟩ (.int .i64 0)).setCell ⟨w.heap.size + 1, 3, none⟩ (.string ⟨#[]⟩)).setCell ⟨w.heap.size + 1, 4, none⟩ (.string ⟨#[]⟩)).setCell ⟨w.heap.size + 1, 5, none⟩ (.string ⟨#[]⟩)).setCell ⟨w.heap.size + 1, 6, none⟩ (.slice none 0 0)).setCell ⟨w.heap.size + 1, 7, none⟩ (.string ⟨#[]⟩)).setCell ⟨w.heap.size + 1, 8, none⟩ (.bool false)).setCell ⟨w.heap.size + 1, 9, none⟩ (.slice none 0 0)) := by
  refine ⟨?_, ?_⟩
  · have h1 := ((((((((((h.set 0 (.int .i64 0)).set 1 (.int .i64 0)).set 2 (.int .i64 0)).set 3 (.string ⟨#[]⟩)).set 4 (.string ⟨#[]⟩)).set 5 (.string ⟨#[]⟩)).set 6 (.slice none 0 0)).set 7 (.string ⟨#[]⟩)).set 8 (.bool false)).set 9 (.slice none 0 0))
    exact h1.eq (by simp)
  · exact ((((((((((hb.setCell (by dsimp only; omega) _).setCell (by dsimp only; omega) _).setCell (by dsimp only; omega) _).setCell (by dsimp only; omega) _).setCell (by dsimp only; omega) _).setCell (by dsimp only; omega) _).setCell (by dsimp only; omega) _).setCell (by dsimp only; omega) _).setCell (by dsimp only; omega) _).setCell (by dsimp only; omega) _)
theorem bound_f (ver meth : Int) (pw bn mech cred : ByteArray) (hcr : Bool) : msg_bound.f ver bn meth pw mech cred hcr = some ((boundS ver meth pw bn).1, ⟨#[]⟩, (boundS ver meth pw bn).2) := by
  unfold msg_bound.f boundS
  repeat' split
  all_goals rfl
theorem any_none (l : List S52) (h : ∀ j : Nat, j < l.length → (rd_T52 l j).f1 = false) : l.any (fun c => c.f1) = false := by
  rw [List.any_eq_false]
  intro x hx
  obtain ⟨j, hj, rfl⟩ := List.mem_iff_getElem.1 hx
  have := h j hj
  unfold rd_T52 at this
  rw [Int.toNat_natCast, List.getD_eq_getElem?_getD, List.getElem?_eq_getElem hj] at this
  simpa using this
theorem any_some (l : List S52) (j : Nat) (hj : j < l.length) (h : (rd_T52 l j).f1 = true) : l.any (fun c => c.f1) = true := by
  rw [List.any_eq_true]
  refine ⟨l[j], List.getElem_mem _, ?_⟩
  unfold rd_T52 at h
  rw [Int.toNat_natCast, List.getD_eq_getElem?_getD, List.getElem?_eq_getElem hj] at h
  simpa using h
set_option maxHeartbeats 8000000 in
set_option maxRecDepth 100000 in
theorem mRef_any (id : Int) (k : Int) (ver : Int) (bn : ByteArray) (meth : Int) (pw : ByteArray) (mech : ByteArray) (cred : ByteArray) (hcr : Bool) (base : ByteArray) (scope : Int) (deref : Int) (szl : Int) (tml : Int) (tyo : Bool) (vF : Value) (vA : Value) (name : ByteArray) (vC : Value) (vT : Value) (rdn : ByteArray) (dold : Bool) (sup : ByteArray) (hsup : Bool) (desc : ByteArray) (val : ByteArray) (hval : Bool) (aban : Int) (A28 : Option Addr) (c28 : Nat) (ctl : List S52) (w : World) (hT : TabR w) (hC : Kd.C k52 w A28 ctl.length ctl) (hc : ctl.length ≤ c28) (hl : ctl.length ≤ 1048576) (hk : (Lit.int .i64 k).wf = true) :
    Calls Tryd.prog 6 #[.agg #[.int .i64 id, .int .i64 k, .int .i64 ver, .string bn, .int .i64 meth, .string pw, .string mech, .string cred, .bool hcr, .string base, .int .i64 scope, .int .i64 deref, .int .i64 szl, .int .i64 tml, .bool tyo, vF, vA, .string name, vC, vT, .string rdn, .bool dold, .string sup, .bool hsup, .string desc, .string val, .bool hval, .int .i64 aban, .slice A28 ctl.length c28]] w fun e w' => e = .returned (.tuple #[repV (refS id k ver meth pw bn ctl).1, .bool (refS id k ver meth pw bn ctl).2]) ∧ Below w.heap.size w w' := by
  have hu36 := Tryd.underlying36
  have hu42 := Tryd.underlying42
  have HT := Lib.hid hT
  have HC := Lib.hid hC
  clear hT hC
  go_enter Tryd.func6, Tryd.ntmps6
  go_upto_region 1 with fail
  refine gen2 (G := fun W => Code.wp _ _ _ _ W) ?_
  intro W1 hb1 hz1 h1 h2
  obtain ⟨bm, nn, hcm, hM⟩ := (HT.out.below hb1 (Nat.le_refl _)).map
  have hlook := look_ok k hk hM
  have x0 := (h1.cell 0).trans rfl
  have x1 := (h1.cell 1).trans rfl
  have x28 := (h1.cell 28).trans rfl
  have HB1 := Lib.hid hb1
  have H1 := Lib.hid h1
  have H2 := Lib.hid h2
  clear hM hb1 h1 h2
  by_cases ht : hasTo k = true
  · simp only [ht, if_true] at hlook
    go_upto_region 6 with fail
    refine gen1 (G := fun W => Code.wp _ _ _ _ W) ?_
    intro W2 hb2 hz2 h3
    have HR := Lib.hid (show RW w W2 #[.int .i64 id, .int .i64 k, .int .i64 ver, .string bn, .int .i64 meth, .string pw, .string mech, .string cred, .bool hcr, .string base, .int .i64 scope, .int .i64 deref, .int .i64 szl, .int .i64 tml, .bool tyo, vF, vA, .string name, vC, vT, .string rdn, .bool dold, .string sup, .bool hsup, .string desc, .string val, .bool hval, .int .i64 aban, .slice A28 ctl.length c28] #[.int .i64 id, .int .i64 (toOf k), .int .i64 0, .string ⟨#[]⟩, .string ⟨#[]⟩, .string ⟨#[]⟩, .slice none 0 0, .string ⟨#[]⟩, .bool false, .slice none 0 0] from ⟨H1.out.below hb2 (by omega), H2.out.below hb2 (by omega), by rw [hz1] at h3; exact h3, HB1.out.trans (hb2.mono (by omega))⟩)
    clear hb2 h3 hz2 x0 x1 x28 hcm hlook H1 H2 hz1 HB1
    go_loopw [26] (fun v wr => ∃ i : Nat, v = .int .i64 i ∧ i ≤ ctl.length ∧ Hid (∀ j : Nat, j < i → (rd_T52 ctl j).f1 = false) ∧ RW w wr #[.int .i64 id, .int .i64 k, .int .i64 ver, .string bn, .int .i64 meth, .string pw, .string mech, .string cred, .bool hcr, .string base, .int .i64 scope, .int .i64 deref, .int .i64 szl, .int .i64 tml, .bool tyo, vF, vA, .string name, vC, vT, .string rdn, .bool dold, .string sup, .bool hsup, .string desc, .string val, .bool hval, .int .i64 aban, .slice A28 ctl.length c28] #[.int .i64 id, .int .i64 (toOf k), .int .i64 0, .string ⟨#[]⟩, .string ⟨#[]⟩, .string ⟨#[]⟩, .slice none 0 0, .string ⟨#[]⟩, .bool false, .slice none 0 0]) (fun v _ => ctl.length - (intOf v).toNat)
    case atStart => exact ⟨0, rfl, Nat.zero_le _, Lib.hid (fun j hj => absurd hj (Nat.not_lt_zero j)), HR.out⟩
    case round =>
      obtain ⟨i, rfl, hi, HN, hR⟩ := hrel
      clear HR
      by_cases hil : i < ctl.length
      · have p : (0 : Int) ≤ i := by omega
        have q : (i : Int) < ctl.length := by omega
        obtain ⟨ad, rfl, y0, y1, y2, y3⟩ := at_T52 (Kd.C_below HC.out hR.b) (i : Int) p q
        rw [Int.toNat_natCast] at y0 y1 y2 y3
        obtain ⟨cc, hcc⟩ : ∃ c, c = rd_T52 ctl (i : Int) := ⟨_, rfl⟩
        rw [← hcc] at y0 y1 y2 y3
        have HR := Lib.hid hR
        have HCC := Lib.hid hcc
        clear hR hcc
        cases hcr1 : cc.f1 with
        | false =>
          rw [hcr1] at y1
          go_wp2_with fail
          go_roundw
          case rel => exact ⟨i + 1, by go_num, by omega, Lib.hid (fun j hj => by
            rcases Nat.lt_succ_iff_lt_or_eq.1 hj with h | rfl
            · exact HN.out j h
            · rw [← HCC.out]; exact hcr1), HR.out.alloc _⟩
          case measure => simp [intOf]; omega
        | true =>
          rw [hcr1] at y1
          have e : refS id k ver meth pw bn ctl = ((id, toOf k, 12, ⟨#[99, 114, 105, 116, 105, 99, 97, 108, 32, 99, 111, 110, 116, 114, 111, 108]⟩), true) := by
            unfold refS
            rw [if_pos ht, if_pos (any_some ctl i hil (by rw [← HCC.out]; exact hcr1))]
          have HE := Lib.hid e
          clear e
          have hR := HR.out
          have l1 := hR.a1.lt
          have l2 := hR.a2.lt
          have l3 := hR.a3.lt
          have u0 := (hR.a3.cell 0).trans rfl
          have s0 := (hR.a2.cell 0).trans rfl
          have t0 := hR.a2.free 0
          have u1 := (hR.a3.cell 1).trans rfl
          have s1 := (hR.a2.cell 1).trans rfl
          have t1 := hR.a2.free 1
          have u2 := (hR.a3.cell 2).trans rfl
          have v2 := hR.a3.free 2
          have s2 := (hR.a2.cell 2).trans rfl
          have t2 := hR.a2.free 2
          have u3 := (hR.a3.cell 3).trans rfl
          have v3 := hR.a3.free 3
          have s3 := (hR.a2.cell 3).trans rfl
          have t3 := hR.a2.free 3
          have u4 := (hR.a3.cell 4).trans rfl
          have v4 := hR.a3.free 4
          have s4 := (hR.a2.cell 4).trans rfl
          have t4 := hR.a2.free 4
          have u5 := (hR.a3.cell 5).trans rfl
          have s5 := (hR.a2.cell 5).trans rfl
          have t5 := hR.a2.free 5
          have u6 := (hR.a3.cell 6).trans rfl
          have s6 := (hR.a2.cell 6).trans rfl
          have t6 := hR.a2.free 6
          have u7 := (hR.a3.cell 7).trans rfl
          have s7 := (hR.a2.cell 7).trans rfl
          have t7 := hR.a2.free 7
          have u8 := (hR.a3.cell 8).trans rfl
          have s8 := (hR.a2.cell 8).trans rfl
          have t8 := hR.a2.free 8
          have u9 := (hR.a3.cell 9).trans rfl
          have s9 := (hR.a2.cell 9).trans rfl
          have t9 := hR.a2.free 9
          clear hR
          go_wp2_with fail
          have hF := fin HR.out id (toOf k) 12 ⟨#[]⟩ ⟨#[99, 114, 105, 116, 105, 99, 97, 108, 32, 99, 111, 110, 116, 114, 111, 108]⟩
          refine bodyPost_ret (results_row_tmp (p := 2) (u := 3) (ty := 42) ?h0 _ _ (w.heap.size + 1) 42 _ _ (.bool true) ?hp ?hv (hF.1.alloc _) Tryd.underlying42 ?hd ?sz) rfl ?_
          case h0 => rfl
          case hp => rfl
          case hv => rfl
          case hd => rfl
          case sz => kernel_rfl
          rw [HE.out]
          exact ⟨rfl, hF.2.alloc hF.2.size _⟩
      · obtain rfl : i = ctl.length := by omega
        have HA := Lib.hid (show ¬ (ctl.any (fun c => c.f1) = true) by rw [any_none ctl HN.out]; decide)
        have HR := Lib.hid hR
        have l1 := hR.a1.lt
        have l2 := hR.a2.lt
        have l3 := hR.a3.lt
        have u0 := (hR.a3.cell 0).trans rfl
        have s0 := (hR.a2.cell 0).trans rfl
        have t0 := hR.a2.free 0
        have u1 := (hR.a3.cell 1).trans rfl
        have s1 := (hR.a2.cell 1).trans rfl
        have t1 := hR.a2.free 1
        have u2 := (hR.a3.cell 2).trans rfl
        have v2 := hR.a3.free 2
        have s2 := (hR.a2.cell 2).trans rfl
        have t2 := hR.a2.free 2
        have u3 := (hR.a3.cell 3).trans rfl
        have v3 := hR.a3.free 3
        have s3 := (hR.a2.cell 3).trans rfl
        have t3 := hR.a2.free 3
        have u4 := (hR.a3.cell 4).trans rfl
        have v4 := hR.a3.free 4
        have s4 := (hR.a2.cell 4).trans rfl
        have t4 := hR.a2.free 4
        have u5 := (hR.a3.cell 5).trans rfl
        have s5 := (hR.a2.cell 5).trans rfl
        have t5 := hR.a2.free 5
        have u6 := (hR.a3.cell 6).trans rfl
        have s6 := (hR.a2.cell 6).trans rfl
        have t6 := hR.a2.free 6
        have u7 := (hR.a3.cell 7).trans rfl
        have s7 := (hR.a2.cell 7).trans rfl
        have t7 := hR.a2.free 7
        have u8 := (hR.a3.cell 8).trans rfl
        have s8 := (hR.a2.cell 8).trans rfl
        have t8 := hR.a2.free 8
        have u9 := (hR.a3.cell 9).trans rfl
        have s9 := (hR.a2.cell 9).trans rfl
        have t9 := hR.a2.free 9
        have r1 := (hR.a1.cell 1).trans rfl
        clear hR
        by_cases c0 : k = 0
        · have hR := HR.out
          have r2 := (hR.a1.cell 2).trans rfl
          have r3 := (hR.a1.cell 3).trans rfl
          have r4 := (hR.a1.cell 4).trans rfl
          have r5 := (hR.a1.cell 5).trans rfl
          have r6 := (hR.a1.cell 6).trans rfl
          have r7 := (hR.a1.cell 7).trans rfl
          have r8 := (hR.a1.cell 8).trans rfl
          clear hR
          have e : refS id k ver meth pw bn ctl = ((id, toOf k, (boundS ver meth pw bn).1, (boundS ver meth pw bn).2), true) := by
            unfold refS
            rw [if_pos ht, if_neg HA.out, if_pos c0]
          have HE := Lib.hid e
          clear e
          go_wp2_with fail
          refine (msg_bound.calls ver bn meth pw mech cred hcr _ _ _ wr (bound_f ver meth pw bn mech cred hcr)).mono ?_
          rintro en w1 ⟨rfl, b1⟩
          have hR := HR.out.below b1
          have u0 := (hR.a3.cell 0).trans rfl
          have s0 := (hR.a2.cell 0).trans rfl
          have t0 := hR.a2.free 0
          have u1 := (hR.a3.cell 1).trans rfl
          have s1 := (hR.a2.cell 1).trans rfl
          have t1 := hR.a2.free 1
          have u2 := (hR.a3.cell 2).trans rfl
          have s2 := (hR.a2.cell 2).trans rfl
          have t2 := hR.a2.free 2
          have u3 := (hR.a3.cell 3).trans rfl
          have s3 := (hR.a2.cell 3).trans rfl
          have t3 := hR.a2.free 3
          have u4 := (hR.a3.cell 4).trans rfl
          have s4 := (hR.a2.cell 4).trans rfl
          have t4 := hR.a2.free 4
          have u5 := (hR.a3.cell 5).trans rfl
          have s5 := (hR.a2.cell 5).trans rfl
          have t5 := hR.a2.free 5
          have u6 := (hR.a3.cell 6).trans rfl
          have s6 := (hR.a2.cell 6).trans rfl
          have t6 := hR.a2.free 6
          have u7 := (hR.a3.cell 7).trans rfl
          have s7 := (hR.a2.cell 7).trans rfl
          have t7 := hR.a2.free 7
          have u8 := (hR.a3.cell 8).trans rfl
          have s8 := (hR.a2.cell 8).trans rfl
          have t8 := hR.a2.free 8
          have u9 := (hR.a3.cell 9).trans rfl
          have s9 := (hR.a2.cell 9).trans rfl
          have t9 := hR.a2.free 9
          have v2 := hR.a3.free 2
          have v3 := hR.a3.free 3
          have v4 := hR.a3.free 4
          have l1 := hR.a1.lt
          have l2 := hR.a2.lt
          have l3 := hR.a3.lt
          obtain ⟨bc, hbc⟩ : ∃ x, x = (boundS ver meth pw bn).1 := ⟨_, rfl⟩
          obtain ⟨bt, hbt⟩ : ∃ x, x = (boundS ver meth pw bn).2 := ⟨_, rfl⟩
          rw [← hbc, ← hbt]
          have HBC := Lib.hid hbc
          have HBT := Lib.hid hbt
          have HR1 := Lib.hid hR
          clear hR hbc hbt b1 HR
          go_wp2_with fail
          have hF := fin HR1.out id (toOf 0) bc ⟨#[]⟩ bt
          refine bodyPost_ret (results_row_tmp (p := 2) (u := 3) (ty := 42) ?h0 _ _ (w.heap.size + 1) 42 _ _ (.bool true) ?hp ?hv hF.1 Tryd.underlying42 ?hd ?sz) rfl ?_
          case h0 => rfl
          case hp => rfl
          case hv => rfl
          case hd => rfl
          case sz => kernel_rfl
          rw [HE.out, c0, ← HBC.out, ← HBT.out]
          exact ⟨rfl, hF.2⟩
        · by_cases c2 : k = 2
          · have e : refS id k ver meth pw bn ctl = ((0, 0, 0, ⟨#[]⟩), false) := by
              unfold refS
              rw [if_pos ht, if_neg HA.out, if_neg c0, if_pos c2]
            have HE := Lib.hid e
            clear e
            go_wp2_with fail
            have hF := finz HR.out.a2 HR.out.b
            refine bodyPost_ret (results_row_tmp (p := 2) (u := 3) (ty := 42) ?h0 _ _ (w.heap.size + 1) 42 _ _ (.bool false) ?hp ?hv hF.1 Tryd.underlying42 ?hd ?sz) rfl ?_
            case h0 => rfl
            case hp => rfl
            case hv => rfl
            case hd => rfl
            case sz => kernel_rfl
            rw [HE.out]
            exact ⟨rfl, hF.2⟩
          · by_cases c7 : k = 7
            · have e : refS id k ver meth pw bn ctl = ((id, toOf k, 53, ⟨#[110, 111, 32, 99, 111, 109, 112, 97, 114, 101]⟩), true) := by
                unfold refS
                rw [if_pos ht, if_neg HA.out, if_neg c0, if_neg c2, if_pos c7]
              have HE := Lib.hid e
              clear e
              go_wp2_with fail
              have hF := fin HR.out id (toOf 7) 53 ⟨#[]⟩ ⟨#[110, 111, 32, 99, 111, 109, 112, 97, 114, 101]⟩
              refine bodyPost_ret (results_row_tmp (p := 2) (u := 3) (ty := 42) ?h0 _ _ (w.heap.size + 1) 42 _ _ (.bool true) ?hp ?hv hF.1 Tryd.underlying42 ?hd ?sz) rfl ?_
              case h0 => rfl
              case hp => rfl
              case hv => rfl
              case hd => rfl
              case sz => kernel_rfl
              rw [HE.out, c7]
              exact ⟨rfl, hF.2⟩
            · by_cases c9 : k = 9
              · have e : refS id k ver meth pw bn ctl = ((id, toOf k, 2, ⟨#[110, 111, 32, 115, 117, 99, 104, 32, 111, 112, 101, 114, 97, 116, 105, 111, 110]⟩), true) := by
                  unfold refS
                  rw [if_pos ht, if_neg HA.out, if_neg c0, if_neg c2, if_neg c7, if_pos c9]
                have HE := Lib.hid e
                clear e
                go_wp2_with fail
                have hF := fin HR.out id (toOf 9) 2 ⟨#[]⟩ ⟨#[110, 111, 32, 115, 117, 99, 104, 32, 111, 112, 101, 114, 97, 116, 105, 111, 110]⟩
                refine bodyPost_ret (results_row_tmp (p := 2) (u := 3) (ty := 42) ?h0 _ _ (w.heap.size + 1) 42 _ _ (.bool true) ?hp ?hv hF.1 Tryd.underlying42 ?hd ?sz) rfl ?_
                case h0 => rfl
                case hp => rfl
                case hv => rfl
                case hd => rfl
                case sz => kernel_rfl
                rw [HE.out, c9]
                exact ⟨rfl, hF.2⟩
              · have e : refS id k ver meth pw bn ctl = ((id, toOf k, 53, ⟨#[114, 101, 97, 100, 32, 111, 110, 108, 121]⟩), true) := by
                  unfold refS
                  rw [if_pos ht, if_neg HA.out, if_neg c0, if_neg c2, if_neg c7, if_neg c9]
                have HE := Lib.hid e
                clear e
                go_wp2_with fail
                have hF := fin HR.out id (toOf k) 53 ⟨#[]⟩ ⟨#[114, 101, 97, 100, 32, 111, 110, 108, 121]⟩
                refine bodyPost_ret (results_row_tmp (p := 2) (u := 3) (ty := 42) ?h0 _ _ (w.heap.size + 1) 42 _ _ (.bool true) ?hp ?hv hF.1 Tryd.underlying42 ?hd ?sz) rfl ?_
                case h0 => rfl
                case hp => rfl
                case hv => rfl
                case hd => rfl
                case sz => kernel_rfl
                rw [HE.out]
                exact ⟨rfl, hF.2⟩
  · have e : refS id k ver meth pw bn ctl = ((0, 0, 0, ⟨#[]⟩), false) := by
      unfold refS
      rw [if_neg ht]
    have HE := Lib.hid e
    have ht' : hasTo k = false := by simpa using ht
    rw [ht'] at hlook
    have kB := H2.out
    have s0 := (kB.cell 0).trans rfl
    have t0 := kB.free 0
    have s1 := (kB.cell 1).trans rfl
    have t1 := kB.free 1
    have s2 := (kB.cell 2).trans rfl
    have t2 := kB.free 2
    have s3 := (kB.cell 3).trans rfl
    have t3 := kB.free 3
    have s4 := (kB.cell 4).trans rfl
    have t4 := kB.free 4
    have s5 := (kB.cell 5).trans rfl
    have t5 := kB.free 5
    have s6 := (kB.cell 6).trans rfl
    have t6 := kB.free 6
    have s7 := (kB.cell 7).trans rfl
    have t7 := kB.free 7
    have s8 := (kB.cell 8).trans rfl
    have t8 := kB.free 8
    have s9 := (kB.cell 9).trans rfl
    have t9 := kB.free 9
    have l2 := kB.lt
    clear e kB
    go_wp2_with fail
    have hF := finz H2.out HB1.out
    refine bodyPost_ret (results_row_tmp (p := 2) (u := 3) (ty := 42) ?h0 _ _ (w.heap.size + 1) 42 _ _ (.bool false) ?hp ?hv hF.1 Tryd.underlying42 ?hd ?sz) rfl ?_
    case h0 => rfl
    case hp => rfl
    case hv => rfl
    case hd => rfl
    case sz => kernel_rfl
    rw [HE.out]
    exact ⟨rfl, hF.2⟩
end Go.Proofs.YtbpediccbeoifaaDoor.W
