/- The statement MsgRefusals, walked. -/
import Derived.Test.YtbpediccbeoifaaDoorRo
import Derived.Test.YtbpediccbeoifaaDoorKq
import Derived.Laws.CopyOwn
namespace Go.Proofs.YtbpediccbeoifaaDoor.W
open Go.RowKit Go.Proofs.YtbpediccbeoifaaDoorW.PrintWords Go.Proofs.YtbpediccbeoifaaDoorW.PrintLast Go.Proofs.YtbpediccbeoifaaDoor.GN
set_option linter.unusedVariables false
set_option linter.unusedSimpArgs false
theorem C_nil {α : Type} {d : Kd α} {w : World} : Kd.C d w none 0 [] := ⟨rfl, Nat.zero_le _, fun h => absurd h (Nat.lt_irrefl _)⟩
theorem rRef_x (id : Int) (k : Int) (ver : Int) (bn : ByteArray) (meth : Int) (pw : ByteArray) (mech : ByteArray) (cred : ByteArray) (hcr : Bool) (base : ByteArray) (scope : Int) (deref : Int) (szl : Int) (tml : Int) (tyo : Bool) (vF : Value) (vA : Value) (name : ByteArray) (vC : Value) (vT : Value) (rdn : ByteArray) (dold : Bool) (sup : ByteArray) (hsup : Bool) (desc : ByteArray) (val : ByteArray) (hval : Bool) (aban : Int) (A28 : Option Addr) (c28 : Nat) (ctl : List S52) (w : World) (hT : TabR w) (hC : Kd.C k52 w A28 ctl.length ctl) (hc : ctl.length ≤ c28) (hl : ctl.length ≤ 1048576) (r1 r2 r3 : Int) (r4 : ByteArray) (r5 : Bool) (hr : Hid (refS id k ver meth pw bn ctl = ((r1, r2, r3, r4), r5))) :
    Calls Tryd.prog 4 #[.agg #[.int .i64 id, .int .i64 k, .int .i64 ver, .string bn, .int .i64 meth, .string pw, .string mech, .string cred, .bool hcr, .string base, .int .i64 scope, .int .i64 deref, .int .i64 szl, .int .i64 tml, .bool tyo, vF, vA, .string name, vC, vT, .string rdn, .bool dold, .string sup, .bool hsup, .string desc, .string val, .bool hval, .int .i64 aban, .slice A28 ctl.length c28]] w fun e w' => e = .returned (.tuple #[.agg #[.int .i64 r1, .int .i64 r2, .int .i64 r3, .string ⟨#[]⟩, .string r4, .string ⟨#[]⟩, .slice none 0 0, .string ⟨#[]⟩, .bool false, .slice none 0 0], .bool r5]) ∧ Below w.heap.size w w' := by
  have h := rRef_all id k ver bn meth pw mech cred hcr base scope deref szl tml tyo vF vA name vC vT rdn dold sup hsup desc val hval aban A28 c28 ctl w hT hC hc hl
  rw [hr.out] at h
  exact h
theorem mRef_x (id : Int) (k : Int) (ver : Int) (bn : ByteArray) (meth : Int) (pw : ByteArray) (mech : ByteArray) (cred : ByteArray) (hcr : Bool) (base : ByteArray) (scope : Int) (deref : Int) (szl : Int) (tml : Int) (tyo : Bool) (vF : Value) (vA : Value) (name : ByteArray) (vC : Value) (vT : Value) (rdn : ByteArray) (dold : Bool) (sup : ByteArray) (hsup : Bool) (desc : ByteArray) (val : ByteArray) (hval : Bool) (aban : Int) (A28 : Option Addr) (c28 : Nat) (ctl : List S52) (w : World) (hT : TabR w) (hC : Kd.C k52 w A28 ctl.length ctl) (hc : ctl.length ≤ c28) (hl : ctl.length ≤ 1048576) (hk : (Lit.int .i64 k).wf = true) (r1 r2 r3 : Int) (r4 : ByteArray) (r5 : Bool) (hr : Hid (refS id k ver meth pw bn ctl = ((r1, r2, r3, r4), r5))) :
    Calls Tryd.prog 6 #[.agg #[.int .i64 id, .int .i64 k, .int .i64 ver, .string bn, .int .i64 meth, .string pw, .string mech, .string cred, .bool hcr, .string base, .int .i64 scope, .int .i64 deref, .int .i64 szl, .int .i64 tml, .bool tyo, vF, vA, .string name, vC, vT, .string rdn, .bool dold, .string sup, .bool hsup, .string desc, .string val, .bool hval, .int .i64 aban, .slice A28 ctl.length c28]] w fun e w' => e = .returned (.tuple #[.agg #[.int .i64 r1, .int .i64 r2, .int .i64 r3, .string ⟨#[]⟩, .string r4, .string ⟨#[]⟩, .slice none 0 0, .string ⟨#[]⟩, .bool false, .slice none 0 0], .bool r5]) ∧ Below w.heap.size w w' := by
  have h := mRef_any id k ver bn meth pw mech cred hcr base scope deref szl tml tyo vF vA name vC vT rdn dold sup hsup desc val hval aban A28 c28 ctl w hT hC hc hl hk
  rw [hr.out] at h
  exact h
/-- A reply without lists, compared with itself. -/
theorem same_plain (a b c : Int) (m t n o : ByteArray) (h : Bool) (w : World) : Calls Tryd.prog 7 #[.agg #[.int .i64 a, .int .i64 b, .int .i64 c, .string m, .string t, .string n, .slice none 0 0, .string o, .bool h, .slice none 0 0], .agg #[.int .i64 a, .int .i64 b, .int .i64 c, .string m, .string t, .string n, .slice none 0 0, .string o, .bool h, .slice none 0 0]] w fun e w' => e = .returned (.bool true) ∧ Below w.heap.size w w' :=
  rosterref13_SameReply.calls 6000000 a b c m t n none 0 [] o h none 0 [] a b c m t n none 0 [] o h none 0 [] true w C_nil (Nat.le_refl _) C_nil (Nat.le_refl _) C_nil (Nat.le_refl _) C_nil (Nat.le_refl _)
    (SameReply_f a b c m t n [] o h [] (Nat.zero_le _) (fun _ hx => absurd hx (List.not_mem_nil)) (Nat.zero_le _) 6000000 (Nat.le_refl _))
theorem wpList_load_row_g {P : Program} {ops : Array Oper} {rest : List Oper} {o : Oper} {a : Act} {w : World} {Q : Exit → Act → World → Prop} (ty : TypeId) (x : Operand) (ho : o.op = .load ty x)
    (g : Nat) (hx : a.eval x = .pointer (some ⟨g, 0, none⟩)) (t : TypeId) (cs : Array Value) (fr : Nat × Nat) (d : TypeDesc) (hg : w.heap[g]? = some (.cells cs t fr))
    (hu : P.underlying ty = some d) (hd : (match d with | .struct _ | .array _ _ => true | _ => false) = true) (hi : (P.info? ty).map (·.size) = some cs.size)
    (hw : Region.wanted o (yielded ops a.tmps) = true) (h : wpList P ops Q rest (a.put o.dst (.agg cs)) w) : wpList P ops Q (o :: rest) a w :=
  wpList_step fun K hK => by rw [if_pos hw]; exact wp_load_row ty x ho g hx t cs fr d hg hu hd hi (hK _ _ h)
set_option maxRecDepth 100000 in
set_option maxHeartbeats 8000000 in
theorem refusals_any (id : Int) (k : Int) (ver : Int) (bn : ByteArray) (meth : Int) (pw : ByteArray) (mech : ByteArray) (cred : ByteArray) (hcr : Bool) (base : ByteArray) (scope : Int) (deref : Int) (szl : Int) (tml : Int) (tyo : Bool) (AF : Option Addr) (cF : Nat) (lF : List S71) (AA : Option Addr) (cA : Nat) (lA : List ByteArray) (name : ByteArray) (AC : Option Addr) (cC : Nat) (lC : List S73) (AT : Option Addr) (cT : Nat) (lT : List S75) (rdn : ByteArray) (dold : Bool) (sup : ByteArray) (hsup : Bool) (desc : ByteArray) (val : ByteArray) (hval : Bool) (aban : Int) (AL : Option Addr) (cL : Nat) (lL : List S52) (tx : ByteArray) (w : World)
    (hF : Kd.C k71 w AF lF.length lF) (gF : lF.length ≤ cF) (nF : lF.length ≤ 1048576) (xF : ∀ x ∈ lF, x.f4.f1.length ≤ 1048576)
    (hA : Kd.C Kd.string w AA lA.length lA) (gA : lA.length ≤ cA) (nA : lA.length ≤ 1048576)
    (hC : Kd.C k73 w AC lC.length lC) (gC : lC.length ≤ cC) (nC : lC.length ≤ 1048576) (xC : ∀ x ∈ lC, x.f2.length ≤ 1048576)
    (hT : Kd.C k75 w AT lT.length lT) (gT : lT.length ≤ cT) (nT : lT.length ≤ 1048576) (xT : ∀ x ∈ lT, x.f2.length ≤ 1048576)
    (hL : Kd.C k52 w AL lL.length lL) (gL : lL.length ≤ cL) (nL : lL.length ≤ 1048576)
    (hTab : TabR w) (hk : (Lit.int .i64 k).wf = true) :
    Calls Tryd.prog 3 #[.agg #[.int .i64 id, .int .i64 k, .int .i64 ver, .string bn, .int .i64 meth, .string pw, .string mech, .string cred, .bool hcr, .string base, .int .i64 scope, .int .i64 deref, .int .i64 szl, .int .i64 tml, .bool tyo, .slice AF lF.length cF, .slice AA lA.length cA, .string name, .slice AC lC.length cC, .slice AT lT.length cT, .string rdn, .bool dold, .string sup, .bool hsup, .string desc, .string val, .bool hval, .int .i64 aban, .slice AL lL.length cL], .string tx] w fun en w' => en = .returned (.bool true) ∧ Below w.heap.size w w' := by
  have hu36 := Tryd.underlying36
  have hu42 := Tryd.underlying42
  have HF := Lib.hid hF
  have HA := Lib.hid hA
  have HC := Lib.hid hC
  have HT := Lib.hid hT
  have HL := Lib.hid hL
  have HXF := Lib.hid xF
  have HXC := Lib.hid xC
  have HXT := Lib.hid xT
  have HTab := Lib.hid hTab
  obtain ⟨r1, r2, r3, r4, r5, hr⟩ : ∃ r1 r2 r3 r4 r5, refS id k ver meth pw bn lL = ((r1, r2, r3, r4), r5) := ⟨_, _, _, _, _, rfl⟩
  have HRR := Lib.hid hr
  have HGN := Lib.hid (And.intro gF (And.intro gA (And.intro gC (And.intro gT gL))))
  have HN := Lib.hid (And.intro nF (And.intro nA (And.intro nC (And.intro nT nL))))
  clear hF hA hC hT hL xF xC xT hTab hr gF gA gC gT gL nF nA nC nT nL
  go_enter Tryd.func3, Tryd.ntmps3
  go_upto_region 1 with fail
  refine gen1 (G := fun W => Code.wp _ _ _ _ W) ?_
  intro W0 b0 z0 h0
  have B0 := Lib.hid b0
  have K0 := Lib.hid h0
  clear b0 h0 z0
  go_wp2_with (first | ((with_reducible refine gate_dst (N := 11) rfl ?_); refine wpList_load_row rfl 36 (.tmp 2) rfl w.heap.size rfl 36 _ (0, 0) _ K0.out hu36 rfl (by kernel_rfl) ?_))
  refine (rRef_x id k ver bn meth pw mech cred hcr base scope deref szl tml tyo (.slice AF lF.length cF) (.slice AA lA.length cA) name (.slice AC lC.length cC) (.slice AT lT.length cT) rdn dold sup hsup desc val hval aban AL cL lL W0 (HTab.out.below B0.out (Nat.le_refl _)) (Kd.C_below HL.out B0.out) HGN.out.2.2.2.2 HN.out.2.2.2.2 r1 r2 r3 r4 r5 HRR).mono ?_
  rintro en w1 ⟨rfl, b1⟩
  have B1 := Lib.hid (B0.out.trans (b1.mono B0.out.size))
  have K1 := Lib.hid (K0.out.below b1 K0.out.lt)
  clear b1 K0 B0
  go_upto_region 2 with fail
  refine gen1 (G := fun W => Code.wp _ _ _ _ W) ?_
  intro W1 b z hq
  have B2 := Lib.hid (B1.out.trans (b.mono B1.out.size))
  have K2 := Lib.hid (K1.out.below b K1.out.lt)
  have Q2 := Lib.hid hq
  clear b z hq K1 B1
  go_wp2_with (first | ((with_reducible refine gate_dst (N := 15) rfl ?_); refine wpList_load_row rfl 36 (.tmp 2) rfl w.heap.size rfl 36 _ (0, 0) _ K2.out hu36 rfl (by kernel_rfl) ?_))
  refine (request_any id k ver bn meth pw mech cred hcr base scope deref szl tml tyo AF cF lF AA cA lA name AC cC lC AT cT lT rdn dold sup hsup desc val hval aban AL cL lL W1 (Kd.C_below HF.out B2.out) HGN.out.1 HN.out.1 HXF.out (Kd.C_below HA.out B2.out) HGN.out.2.1 HN.out.2.1 (Kd.C_below HC.out B2.out) HGN.out.2.2.1 HN.out.2.2.1 HXC.out (Kd.C_below HT.out B2.out) HGN.out.2.2.2.1 HN.out.2.2.2.1 HXT.out (Kd.C_below HL.out B2.out) HGN.out.2.2.2.2 HN.out.2.2.2.2).mono ?_
  rintro en w2 ⟨BF, dF, BA, dA, BC, dC, BT, dT, BL, dL, rfl, hO, b2⟩
  have B3 := Lib.hid (B2.out.trans (b2.mono B2.out.size))
  have K3 := Lib.hid (K2.out.below b2 K2.out.lt)
  have Q3 := Lib.hid (Q2.out.below b2 Q2.out.lt)
  have HO3 := Lib.hid hO
  clear hO b2 K2 B2 Q2
  go_upto_region 3 with (first | ((with_reducible refine gate_dst (N := 7) rfl ?_); refine box_event ?hg (N := 7) ?hd (cs := #[.int .i64 0, .int .i64 0, .int .i64 0, .string ⟨#[]⟩, .int .i64 0, .string ⟨#[]⟩, .string ⟨#[]⟩, .string ⟨#[]⟩, .bool false, .string ⟨#[]⟩, .int .i64 0, .int .i64 0, .int .i64 0, .int .i64 0, .bool false, .slice none 0 0, .slice none 0 0, .string ⟨#[]⟩, .slice none 0 0, .slice none 0 0, .string ⟨#[]⟩, .bool false, .string ⟨#[]⟩, .bool false, .string ⟨#[]⟩, .string ⟨#[]⟩, .bool false, .int .i64 0, .slice none 0 0]) (t := 36) ?hr ?_; (case hd => rfl); (case hg => rfl); (case hr => first | (go_simp; done) | (go_simp; rfl)); intro gb hg w7 hbox hb; have HX := Lib.hid hbox; have HY := Lib.hid hb; have HG := Lib.hid hg; clear hbox hb hg) | ((with_reducible refine gate_store (t := 36) (p := 7) rfl ?_); refine wpList_store_row rfl 36 (.tmp 7) (.tmp 16) rfl gb #[.int .i64 id, .int .i64 k, .int .i64 ver, .string bn, .int .i64 meth, .string pw, .string mech, .string cred, .bool hcr, .string base, .int .i64 scope, .int .i64 deref, .int .i64 szl, .int .i64 tml, .bool tyo, .slice BF lF.length dF, .slice BA lA.length dA, .string name, .slice BC lC.length dC, .slice BT lT.length dT, .string rdn, .bool dold, .string sup, .bool hsup, .string desc, .string val, .bool hval, .int .i64 aban, .slice BL lL.length dL] rfl rfl 36 _ HX.out (by kernel_rfl) rfl (by simp [Value.oneCell']) ?_))
  obtain ⟨W3, hW3⟩ : ∃ x, x = w7.setRow gb #[.int .i64 id, .int .i64 k, .int .i64 ver, .string bn, .int .i64 meth, .string pw, .string mech, .string cred, .bool hcr, .string base, .int .i64 scope, .int .i64 deref, .int .i64 szl, .int .i64 tml, .bool tyo, .slice BF lF.length dF, .slice BA lA.length dA, .string name, .slice BC lC.length dC, .slice BT lT.length dT, .string rdn, .bool dold, .string sup, .bool hsup, .string desc, .string val, .bool hval, .int .i64 aban, .slice BL lL.length dL] := ⟨_, rfl⟩
  rw [← hW3]
  have b : Below w2.heap.size w2 W3 := by rw [hW3]; exact below_setRow HY.out (Nat.le_of_eq HG.out.symm) _
  have ho : At W3 gb 36 #[.int .i64 id, .int .i64 k, .int .i64 ver, .string bn, .int .i64 meth, .string pw, .string mech, .string cred, .bool hcr, .string base, .int .i64 scope, .int .i64 deref, .int .i64 szl, .int .i64 tml, .bool tyo, .slice BF lF.length dF, .slice BA lA.length dA, .string name, .slice BC lC.length dC, .slice BT lT.length dT, .string rdn, .bool dold, .string sup, .bool hsup, .string desc, .string val, .bool hval, .int .i64 aban, .slice BL lL.length dL] := by rw [hW3]; exact setRow_heap _ _ _ _ _ _ HX.out
  clear hW3 HX HY
  have B4 := Lib.hid (B3.out.trans (b.mono B3.out.size))
  have K4 := Lib.hid (K3.out.below b K3.out.lt)
  have Q4 := Lib.hid (Q3.out.below b Q3.out.lt)
  have HO4 := Lib.hid (HO3.out.below b)
  have O4 := Lib.hid ho
  clear b ho K3 B3 Q3 HO3
  go_wp2_with (first | ((with_reducible refine gate_dst (N := 18) rfl ?_); refine wpList_load_row rfl 36 (.tmp 7) rfl gb rfl 36 _ (0, 0) _ O4.out hu36 rfl (by kernel_rfl) ?_))
  refine (mRef_x id k ver bn meth pw mech cred hcr base scope deref szl tml tyo (.slice BF lF.length dF) (.slice BA lA.length dA) name (.slice BC lC.length dC) (.slice BT lT.length dT) rdn dold sup hsup desc val hval aban BL dL lL W3 (HTab.out.below B4.out (Nat.le_refl _)) (C_pre HO4.out.l) (Nat.le_of_succ_le HO4.out.ll) HN.out.2.2.2.2 hk r1 r2 r3 r4 r5 HRR).mono ?_
  rintro en w4 ⟨rfl, b4⟩
  have B5 := Lib.hid (B4.out.trans (b4.mono B4.out.size))
  have K5 := Lib.hid (K4.out.below b4 K4.out.lt)
  have Q5 := Lib.hid (Q4.out.below b4 Q4.out.lt)
  have O5 := Lib.hid (O4.out.below b4 O4.out.lt)
  have HO5 := Lib.hid (HO4.out.below b4)
  clear b4 K4 B4 Q4 HO4 O4
  go_upto_region 4 with fail
  refine gen1 (G := fun W => Code.wp _ _ _ _ W) ?_
  intro W5 b z hp
  have B6 := Lib.hid (B5.out.trans (b.mono B5.out.size))
  have K6 := Lib.hid (K5.out.below b K5.out.lt)
  have Q6 := Lib.hid (Q5.out.below b Q5.out.lt)
  have O6 := Lib.hid (O5.out.below b O5.out.lt)
  have HO6 := Lib.hid (HO5.out.below b)
  have P6 := Lib.hid hp
  clear b z hp K5 B5 Q5 HO5 O5
  go_wp2_with (first | ((with_reducible refine gate_dst (N := 26) rfl ?_); refine wpList_load_row_g 42 (.tmp 8) rfl w4.heap.size rfl 42 _ (0, 0) _ P6.out hu42 rfl (by kernel_rfl) (by first | rfl | (go_simp; done)) ?_) | ((with_reducible refine gate_dst (N := 27) rfl ?_); refine wpList_load_row_g 42 (.tmp 5) rfl w1.heap.size rfl 42 _ (0, 0) _ Q6.out hu42 rfl (by kernel_rfl) (by first | rfl | (go_simp; done)) ?_))
  refine (same_plain r1 r2 r3 _ r4 _ _ _ W5).mono ?_
  rintro en w6 ⟨rfl, b⟩
  have B7 := Lib.hid (B6.out.trans (b.mono B6.out.size))
  have K7 := Lib.hid (K6.out.below b K6.out.lt)
  have O7 := Lib.hid (O6.out.below b O6.out.lt)
  have HO7 := Lib.hid (HO6.out.below b)
  clear b K6 B6 Q6 HO6 O6 P6
  go_wp2_with (first | ((with_reducible refine gate_dst (N := 31) rfl ?_); refine wpList_load_row_g 36 (.tmp 7) rfl gb rfl 36 _ (0, 0) _ O7.out hu36 rfl (by kernel_rfl) (by first | rfl | (go_simp; done)) ?_) | ((with_reducible refine gate_dst (N := 32) rfl ?_); refine wpList_load_row_g 36 (.tmp 2) rfl w.heap.size rfl 36 _ (0, 0) _ K7.out hu36 rfl (by kernel_rfl) (by first | rfl | (go_simp; done)) ?_))
  refine (kept_any id k ver bn meth pw mech cred hcr base scope deref szl tml tyo AF cF lF AA cA lA name AC cC lC AT cT lT rdn dold sup hsup desc val hval aban AL cL lL BF dF BA dA BC dC BT dT BL dL w6 (Kd.C_below HF.out B7.out) HGN.out.1 HN.out.1 HXF.out (Kd.C_below HA.out B7.out) HGN.out.2.1 HN.out.2.1 (Kd.C_below HC.out B7.out) HGN.out.2.2.1 HN.out.2.2.1 HXC.out (Kd.C_below HT.out B7.out) HGN.out.2.2.2.1 HN.out.2.2.2.1 HXT.out (Kd.C_below HL.out B7.out) HGN.out.2.2.2.2 HN.out.2.2.2.2 HO7.out).mono ?_
  rintro en w7 ⟨rfl, b⟩
  have B8 := Lib.hid (B7.out.trans (b.mono B7.out.size))
  clear b K7 B7 HO7 O7
  go_wp2_with fail
  refine (msg_Notice.calls tx _ _ _ _ _ _ _ _ _ _ w7 rfl).mono ?_
  rintro en w8 ⟨v6, v9, rfl, hv6, hv9, b⟩
  obtain ⟨A6, c6, rfl⟩ := Kd.S_slice hv6
  obtain ⟨A9, c9, rfl⟩ := Kd.R_slice hv9
  have B9 := Lib.hid (B8.out.trans (b.mono B8.out.size))
  have HV6 := Lib.hid hv6
  have HV9 := Lib.hid hv9
  clear b hv6 hv9 B8
  go_wp2_with fail
  refine (rosterref13_Notice.calls tx _ _ _ _ _ _ _ _ _ _ w8 rfl).mono ?_
  rintro en w9 ⟨u6, u9, rfl, hu6, hu9, b⟩
  obtain ⟨E6, e6, rfl⟩ := Kd.S_slice hu6
  obtain ⟨E9, e9, rfl⟩ := Kd.R_slice hu9
  have B10 := Lib.hid (B9.out.trans (b.mono B9.out.size))
  have r6 := Kd.S_reads' (Kd.S_below HV6.out b)
  have r9 := Kd.R_reads' (Kd.R_below HV9.out b)
  have q6 := Kd.S_reads' hu6
  have q9 := Kd.R_reads' hu9
  have HR := Lib.hid (And.intro r6 (And.intro r9 (And.intro q6 q9)))
  clear b hu6 hu9 HV6 HV9 B9 r6 r9 q6 q9
  go_wp2_with fail
  refine (rosterref13_SameReply.calls 6000000 0 8 2 _ tx _ A6 c6 [] _ true A9 c9 [] 0 8 2 _ tx _ E6 e6 [] _ true E9 e9 [] true w9 HR.out.1.2.2 HR.out.1.2.1 HR.out.2.1.2.2 HR.out.2.1.2.1 HR.out.2.2.1.2.2 HR.out.2.2.1.2.1 HR.out.2.2.2.2.2 HR.out.2.2.2.2.1
    (SameReply_f 0 8 2 _ tx _ [] _ true [] (Nat.zero_le _) (fun _ hx => absurd hx (List.not_mem_nil)) (Nat.zero_le _) 6000000 (Nat.le_refl _))).mono ?_
  rintro en w10 ⟨rfl, b⟩
  have B11 := Lib.hid (B10.out.trans (b.mono B10.out.size))
  clear b B10 HR
  go_wp2_with fail
  go_ret
  exact ⟨rfl, B11.out⟩
end Go.Proofs.YtbpediccbeoifaaDoor.W
