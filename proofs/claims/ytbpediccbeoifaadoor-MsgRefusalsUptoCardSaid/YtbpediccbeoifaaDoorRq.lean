/- The copy of a request with marks: walked. Written by a program of this session (wip/tools/mk_rq.py). -/
import Derived.Test.YtbpediccbeoifaaDoorMk2
import Derived.Laws.Tables
import Derived.Laws.Rows
import Derived.Laws.CopyOwn
namespace Go.Proofs.YtbpediccbeoifaaDoor.W
open Go.RowKit Go.Proofs.YtbpediccbeoifaaDoorW.PrintWords Go.Proofs.YtbpediccbeoifaaDoorW.PrintLast Go.Proofs.YtbpediccbeoifaaDoor.GN
set_option linter.unusedVariables false
set_option linter.unusedSimpArgs false
abbrev KNq := k71q
abbrev KCq := k73q
abbrev KTq := k75q
/-- The five lists of a copy, each with its mark. -/
structure Own (w : World) (lF : List S71) (AF : Option Addr) (cF : Nat) (lA : List ByteArray) (AA : Option Addr) (cA : Nat) (lC : List S73) (AC : Option Addr) (cC : Nat) (lT : List S75) (AT : Option Addr) (cT : Nat) (lL : List S52) (AL : Option Addr) (cL : Nat) : Prop where
  lf : lF.length + 1 ≤ cF
  f : Kd.C KNq w AF (lF.length + 1) (lF.map upF ++ [zF])
  la : lA.length + 1 ≤ cA
  a : Kd.C Kd.string w AA (lA.length + 1) (lA ++ [SPM])
  lc : lC.length + 1 ≤ cC
  c : Kd.C KCq w AC (lC.length + 1) (lC.map upC ++ [zC])
  lt : lT.length + 1 ≤ cT
  t : Kd.C KTq w AT (lT.length + 1) (lT.map upT ++ [zT])
  ll : lL.length + 1 ≤ cL
  l : Kd.C k52 w AL (lL.length + 1) (lL ++ [zL])
set_option maxRecDepth 100000 in
set_option maxHeartbeats 8000000 in
theorem request_any (id : Int) (k : Int) (ver : Int) (bn : ByteArray) (meth : Int) (pw : ByteArray) (mech : ByteArray) (cred : ByteArray) (hcr : Bool) (base : ByteArray) (scope : Int) (deref : Int) (szl : Int) (tml : Int) (tyo : Bool) (AF : Option Addr) (cF : Nat) (lF : List S71) (AA : Option Addr) (cA : Nat) (lA : List ByteArray) (name : ByteArray) (AC : Option Addr) (cC : Nat) (lC : List S73) (AT : Option Addr) (cT : Nat) (lT : List S75) (rdn : ByteArray) (dold : Bool) (sup : ByteArray) (hsup : Bool) (desc : ByteArray) (val : ByteArray) (hval : Bool) (aban : Int) (AL : Option Addr) (cL : Nat) (lL : List S52) (w : World)
    (hF : Kd.C k71 w AF lF.length lF) (gF : lF.length ≤ cF) (nF : lF.length ≤ 1048576) (xF : ∀ x ∈ lF, x.f4.f1.length ≤ 1048576)
    (hA : Kd.C Kd.string w AA lA.length lA) (gA : lA.length ≤ cA) (nA : lA.length ≤ 1048576)
    (hC : Kd.C k73 w AC lC.length lC) (gC : lC.length ≤ cC) (nC : lC.length ≤ 1048576) (xC : ∀ x ∈ lC, x.f2.length ≤ 1048576)
    (hT : Kd.C k75 w AT lT.length lT) (gT : lT.length ≤ cT) (nT : lT.length ≤ 1048576) (xT : ∀ x ∈ lT, x.f2.length ≤ 1048576)
    (hL : Kd.C k52 w AL lL.length lL) (gL : lL.length ≤ cL) (nL : lL.length ≤ 1048576) :
    Calls Tryd.prog 5 #[.agg #[.int .i64 id, .int .i64 k, .int .i64 ver, .string bn, .int .i64 meth, .string pw, .string mech, .string cred, .bool hcr, .string base, .int .i64 scope, .int .i64 deref, .int .i64 szl, .int .i64 tml, .bool tyo, .slice AF lF.length cF, .slice AA lA.length cA, .string name, .slice AC lC.length cC, .slice AT lT.length cT, .string rdn, .bool dold, .string sup, .bool hsup, .string desc, .string val, .bool hval, .int .i64 aban, .slice AL lL.length cL]] w fun en w' => ∃ BF dF BA dA BC dC BT dT BL dL, en = .returned (.agg #[.int .i64 id, .int .i64 k, .int .i64 ver, .string bn, .int .i64 meth, .string pw, .string mech, .string cred, .bool hcr, .string base, .int .i64 scope, .int .i64 deref, .int .i64 szl, .int .i64 tml, .bool tyo, .slice BF lF.length dF, .slice BA lA.length dA, .string name, .slice BC lC.length dC, .slice BT lT.length dT, .string rdn, .bool dold, .string sup, .bool hsup, .string desc, .string val, .bool hval, .int .i64 aban, .slice BL lL.length dL]) ∧ Own w' lF BF dF lA BA dA lC BC dC lT BT dT lL BL dL ∧ Below w.heap.size w w' := by
  have hu36 := Tryd.underlying36
  have QF := nodes_f lF nF xF
  have QA := texts_f lA nA
  have QC := changes_f lC nC xC
  have QT := attrs_f lT nT xT
  have QL := controls_f lL nL
  have HF := Lib.hid hF
  have HA := Lib.hid hA
  have HC := Lib.hid hC
  have HT := Lib.hid hT
  have HL := Lib.hid hL
  clear hF hA hC hT hL xF xC xT
  go_enter Tryd.func5, Tryd.ntmps5
  go_upto_region 1 with fail
  refine gen2 (G := fun W => Code.wp _ _ _ _ W) ?_
  intro W0 b0 z0 kA0 kB0
  have hab : w.heap.size + 1 ≠ w.heap.size := by omega
  have B0 := b0
  have y15 := (kA0.cell 15).trans rfl
  have HK0 := Lib.hid kA0
  have HZ0 := Lib.hid kB0
  have HB0 := Lib.hid B0
  clear kA0 kB0 B0 b0
  go_wp2_with fail
  refine (mk_nodes.calls 1048577 AF cF lF _ W0 (Kd.C_below HF.out HB0.out) gF QF).mono ?_
  rintro en v0 ⟨BF, dF, rfl, hSF, b⟩
  have e5 : ((lF.map upF ++ [zF]).take lF.length).length = lF.length := by simp
  rw [e5]
  have e6 : (lF.map upF ++ [zF]).length = lF.length + 1 := by simp
  rw [e6] at hSF
  clear e5 e6
  have hl0 := HK0.out.lt
  have hm0 := HZ0.out.lt
  have kA := HK0.out.below b hl0
  have kB := HZ0.out.below b hm0
  have BB : Below w.heap.size w v0 := HB0.out.trans (b.mono (by omega))
  have f15 := kA.free 15
  have y15 := (kA.cell 15).trans rfl
  go_upto_region 2 with fail
  obtain ⟨W1, hW⟩ : ∃ x, x = v0.setCell ⟨w.heap.size, 15, none⟩ (.slice BF lF.length dF) := ⟨_, rfl⟩
  rw [← hW]
  have kA1 := kA.set 15 (.slice BF lF.length dF)
  rw [← hW] at kA1
  have kB1 := kB.far (p := ⟨w.heap.size, 15, none⟩) hab (.slice BF lF.length dF)
  rw [← hW] at kB1
  have B1 : Below w.heap.size w W1 := by rw [hW]; exact below_set BB (Nat.le_refl _)
  have tF := Kd.S_set hSF kA (by decide) 15 (.slice BF lF.length dF)
  rw [← hW] at tF
  clear hW f15 y15 kA kB BB b hSF hl0 hm0 HK0 HZ0 HB0
  have SF := Lib.hid tF
  clear tF
  have y16 := (kA1.cell 16).trans rfl
  have HK1 := Lib.hid kA1
  have HZ1 := Lib.hid kB1
  have HB1 := Lib.hid B1
  clear kA1 kB1 B1
  go_wp2_with fail
  refine (mk_texts.calls AA cA lA _ W1 (Kd.C_below HA.out HB1.out) gA QA).mono ?_
  rintro en v1 ⟨BA, dA, rfl, hSA, -, b⟩
  have hl1 := HK1.out.lt
  have hm1 := HZ1.out.lt
  have kA := HK1.out.below b hl1
  have kB := HZ1.out.below b hm1
  have BB : Below w.heap.size w v1 := HB1.out.trans (b.mono (by omega))
  have sF := Kd.S_below SF.out b
  have f16 := kA.free 16
  have y16 := (kA.cell 16).trans rfl
  go_upto_region 3 with fail
  obtain ⟨W2, hW⟩ : ∃ x, x = v1.setCell ⟨w.heap.size, 16, none⟩ (.slice BA lA.length dA) := ⟨_, rfl⟩
  rw [← hW]
  have kA2 := kA.set 16 (.slice BA lA.length dA)
  rw [← hW] at kA2
  have kB2 := kB.far (p := ⟨w.heap.size, 16, none⟩) hab (.slice BA lA.length dA)
  rw [← hW] at kB2
  have B2 : Below w.heap.size w W2 := by rw [hW]; exact below_set BB (Nat.le_refl _)
  have tF := Kd.S_set sF kA (by decide) 16 (.slice BA lA.length dA)
  rw [← hW] at tF
  have tA := Kd.R_set hSA kA (by decide) 16 (.slice BA lA.length dA)
  rw [← hW] at tA
  clear hW f16 y16 kA kB BB b hSA hl1 hm1 HK1 HZ1 HB1 sF SF
  have SF := Lib.hid tF
  clear tF
  have SA := Lib.hid tA
  clear tA
  have y18 := (kA2.cell 18).trans rfl
  have HK2 := Lib.hid kA2
  have HZ2 := Lib.hid kB2
  have HB2 := Lib.hid B2
  clear kA2 kB2 B2
  go_wp2_with fail
  refine (mk_changes.calls 1048577 AC cC lC _ W2 (Kd.C_below HC.out HB2.out) gC QC).mono ?_
  rintro en v2 ⟨BC, dC, rfl, hSC, b⟩
  have e5 : ((lC.map upC ++ [zC]).take lC.length).length = lC.length := by simp
  rw [e5]
  have e6 : (lC.map upC ++ [zC]).length = lC.length + 1 := by simp
  rw [e6] at hSC
  clear e5 e6
  have hl2 := HK2.out.lt
  have hm2 := HZ2.out.lt
  have kA := HK2.out.below b hl2
  have kB := HZ2.out.below b hm2
  have BB : Below w.heap.size w v2 := HB2.out.trans (b.mono (by omega))
  have sF := Kd.S_below SF.out b
  have sA := Kd.R_below SA.out b
  have f18 := kA.free 18
  have y18 := (kA.cell 18).trans rfl
  go_upto_region 4 with fail
  obtain ⟨W3, hW⟩ : ∃ x, x = v2.setCell ⟨w.heap.size, 18, none⟩ (.slice BC lC.length dC) := ⟨_, rfl⟩
  rw [← hW]
  have kA3 := kA.set 18 (.slice BC lC.length dC)
  rw [← hW] at kA3
  have kB3 := kB.far (p := ⟨w.heap.size, 18, none⟩) hab (.slice BC lC.length dC)
  rw [← hW] at kB3
  have B3 : Below w.heap.size w W3 := by rw [hW]; exact below_set BB (Nat.le_refl _)
  have tF := Kd.S_set sF kA (by decide) 18 (.slice BC lC.length dC)
  rw [← hW] at tF
  have tA := Kd.R_set sA kA (by decide) 18 (.slice BC lC.length dC)
  rw [← hW] at tA
  have tC := Kd.S_set hSC kA (by decide) 18 (.slice BC lC.length dC)
  rw [← hW] at tC
  clear hW f18 y18 kA kB BB b hSC hl2 hm2 HK2 HZ2 HB2 sF SF sA SA
  have SF := Lib.hid tF
  clear tF
  have SA := Lib.hid tA
  clear tA
  have SC := Lib.hid tC
  clear tC
  have y19 := (kA3.cell 19).trans rfl
  have HK3 := Lib.hid kA3
  have HZ3 := Lib.hid kB3
  have HB3 := Lib.hid B3
  clear kA3 kB3 B3
  go_wp2_with fail
  refine (mk_attrs.calls 1048577 AT cT lT _ W3 (Kd.C_below HT.out HB3.out) gT QT).mono ?_
  rintro en v3 ⟨BT, dT, rfl, hST, b⟩
  have e5 : ((lT.map upT ++ [zT]).take lT.length).length = lT.length := by simp
  rw [e5]
  have e6 : (lT.map upT ++ [zT]).length = lT.length + 1 := by simp
  rw [e6] at hST
  clear e5 e6
  have hl3 := HK3.out.lt
  have hm3 := HZ3.out.lt
  have kA := HK3.out.below b hl3
  have kB := HZ3.out.below b hm3
  have BB : Below w.heap.size w v3 := HB3.out.trans (b.mono (by omega))
  have sF := Kd.S_below SF.out b
  have sA := Kd.R_below SA.out b
  have sC := Kd.S_below SC.out b
  have f19 := kA.free 19
  have y19 := (kA.cell 19).trans rfl
  go_upto_region 5 with fail
  obtain ⟨W4, hW⟩ : ∃ x, x = v3.setCell ⟨w.heap.size, 19, none⟩ (.slice BT lT.length dT) := ⟨_, rfl⟩
  rw [← hW]
  have kA4 := kA.set 19 (.slice BT lT.length dT)
  rw [← hW] at kA4
  have kB4 := kB.far (p := ⟨w.heap.size, 19, none⟩) hab (.slice BT lT.length dT)
  rw [← hW] at kB4
  have B4 : Below w.heap.size w W4 := by rw [hW]; exact below_set BB (Nat.le_refl _)
  have tF := Kd.S_set sF kA (by decide) 19 (.slice BT lT.length dT)
  rw [← hW] at tF
  have tA := Kd.R_set sA kA (by decide) 19 (.slice BT lT.length dT)
  rw [← hW] at tA
  have tC := Kd.S_set sC kA (by decide) 19 (.slice BT lT.length dT)
  rw [← hW] at tC
  have tT := Kd.S_set hST kA (by decide) 19 (.slice BT lT.length dT)
  rw [← hW] at tT
  clear hW f19 y19 kA kB BB b hST hl3 hm3 HK3 HZ3 HB3 sF SF sA SA sC SC
  have SF := Lib.hid tF
  clear tF
  have SA := Lib.hid tA
  clear tA
  have SC := Lib.hid tC
  clear tC
  have ST := Lib.hid tT
  clear tT
  have y28 := (kA4.cell 28).trans rfl
  have HK4 := Lib.hid kA4
  have HZ4 := Lib.hid kB4
  have HB4 := Lib.hid B4
  clear kA4 kB4 B4
  go_wp2_with fail
  refine (mk_controls.calls AL cL lL _ W4 (Kd.C_below HL.out HB4.out) gL QL).mono ?_
  rintro en v4 ⟨BL, dL, rfl, hSL, -, b⟩
  have hl4 := HK4.out.lt
  have hm4 := HZ4.out.lt
  have kA := HK4.out.below b hl4
  have kB := HZ4.out.below b hm4
  have BB : Below w.heap.size w v4 := HB4.out.trans (b.mono (by omega))
  have sF := Kd.S_below SF.out b
  have sA := Kd.R_below SA.out b
  have sC := Kd.S_below SC.out b
  have sT := Kd.S_below ST.out b
  have f28 := kA.free 28
  have y28 := (kA.cell 28).trans rfl
  go_upto_region 6 with fail
  obtain ⟨W5, hW⟩ : ∃ x, x = v4.setCell ⟨w.heap.size, 28, none⟩ (.slice BL lL.length dL) := ⟨_, rfl⟩
  rw [← hW]
  have kA5 := kA.set 28 (.slice BL lL.length dL)
  rw [← hW] at kA5
  have kB5 := kB.far (p := ⟨w.heap.size, 28, none⟩) hab (.slice BL lL.length dL)
  rw [← hW] at kB5
  have B5 : Below w.heap.size w W5 := by rw [hW]; exact below_set BB (Nat.le_refl _)
  have tF := Kd.S_set sF kA (by decide) 28 (.slice BL lL.length dL)
  rw [← hW] at tF
  have tA := Kd.R_set sA kA (by decide) 28 (.slice BL lL.length dL)
  rw [← hW] at tA
  have tC := Kd.S_set sC kA (by decide) 28 (.slice BL lL.length dL)
  rw [← hW] at tC
  have tT := Kd.S_set sT kA (by decide) 28 (.slice BL lL.length dL)
  rw [← hW] at tT
  have tL := Kd.R_set hSL kA (by decide) 28 (.slice BL lL.length dL)
  rw [← hW] at tL
  clear hW f28 y28 kA kB BB b hSL hl4 hm4 HK4 HZ4 HB4 sF SF sA SA sC SC sT ST
  have SF := Lib.hid tF
  clear tF
  have SA := Lib.hid tA
  clear tA
  have SC := Lib.hid tC
  clear tC
  have ST := Lib.hid tT
  clear tT
  have SL := Lib.hid tL
  clear tL
  have kA6 := kA5.eq (cs' := #[.int .i64 id, .int .i64 k, .int .i64 ver, .string bn, .int .i64 meth, .string pw, .string mech, .string cred, .bool hcr, .string base, .int .i64 scope, .int .i64 deref, .int .i64 szl, .int .i64 tml, .bool tyo, .slice BF lF.length dF, .slice BA lA.length dA, .string name, .slice BC lC.length dC, .slice BT lT.length dT, .string rdn, .bool dold, .string sup, .bool hsup, .string desc, .string val, .bool hval, .int .i64 aban, .slice BL lL.length dL]) (by rfl)
  have HK := Lib.hid kA6
  have HZ := Lib.hid kB5
  have HB := Lib.hid B5
  clear kA5 kA6 kB5 B5
  go_wp2_with (first | ((with_reducible refine gate_dst (N := 27) rfl ?_); refine wpList_load_row rfl 36 (.tmp 1) rfl w.heap.size rfl 36 #[.int .i64 id, .int .i64 k, .int .i64 ver, .string bn, .int .i64 meth, .string pw, .string mech, .string cred, .bool hcr, .string base, .int .i64 scope, .int .i64 deref, .int .i64 szl, .int .i64 tml, .bool tyo, .slice BF lF.length dF, .slice BA lA.length dA, .string name, .slice BC lC.length dC, .slice BT lT.length dT, .string rdn, .bool dold, .string sup, .bool hsup, .string desc, .string val, .bool hval, .int .i64 aban, .slice BL lL.length dL] (0, 0) _ HK.out hu36 rfl (by kernel_rfl) ?_) | ((with_reducible refine gate_store (t := 36) (p := 2) rfl ?_); refine wpList_store_row rfl 36 (.tmp 2) (.tmp 27) rfl (w.heap.size + 1) #[.int .i64 id, .int .i64 k, .int .i64 ver, .string bn, .int .i64 meth, .string pw, .string mech, .string cred, .bool hcr, .string base, .int .i64 scope, .int .i64 deref, .int .i64 szl, .int .i64 tml, .bool tyo, .slice BF lF.length dF, .slice BA lA.length dA, .string name, .slice BC lC.length dC, .slice BT lT.length dT, .string rdn, .bool dold, .string sup, .bool hsup, .string desc, .string val, .bool hval, .int .i64 aban, .slice BL lL.length dL] rfl rfl 36 _ HZ.out (by kernel_rfl) rfl (by simp [Value.oneCell']) ?_))
  have hg : W5.grownBy (W5.setRow (w.heap.size + 1) #[.int .i64 id, .int .i64 k, .int .i64 ver, .string bn, .int .i64 meth, .string pw, .string mech, .string cred, .bool hcr, .string base, .int .i64 scope, .int .i64 deref, .int .i64 szl, .int .i64 tml, .bool tyo, .slice BF lF.length dF, .slice BA lA.length dA, .string name, .slice BC lC.length dC, .slice BT lT.length dT, .string rdn, .bool dold, .string sup, .bool hsup, .string desc, .string val, .bool hval, .int .i64 aban, .slice BL lL.length dL]) (some (w.heap.size + 1)) := ⟨rfl, rfl, rfl, by simp, fun k hk hne => setRow_other _ _ _ _ (fun e => hne (congrArg some e))⟩
  refine bodyPost_ret (results_cell_row rfl _ _ (w.heap.size + 1) 36 #[.int .i64 id, .int .i64 k, .int .i64 ver, .string bn, .int .i64 meth, .string pw, .string mech, .string cred, .bool hcr, .string base, .int .i64 scope, .int .i64 deref, .int .i64 szl, .int .i64 tml, .bool tyo, .slice BF lF.length dF, .slice BA lA.length dA, .string name, .slice BC lC.length dC, .slice BT lT.length dT, .string rdn, .bool dold, .string sup, .bool hsup, .string desc, .string val, .bool hval, .int .i64 aban, .slice BL lL.length dL] (0, 0) _ rfl (setRow_heap _ _ _ _ _ _ HZ.out) hu36 rfl (by kernel_rfl)) rfl ?_
  have qF := Kd.S_reads' (Kd.S_grown (Kd.S_types SF.out HZ.out (by decide)) hg (fun k hk e => hk.2 (by injection e)))
  have qA := Kd.R_reads' (Kd.R_grown (Kd.R_types SA.out HZ.out (by decide)) hg (fun k hk e => hk.2 (by injection e)))
  have qC := Kd.S_reads' (Kd.S_grown (Kd.S_types SC.out HZ.out (by decide)) hg (fun k hk e => hk.2 (by injection e)))
  have qT := Kd.S_reads' (Kd.S_grown (Kd.S_types ST.out HZ.out (by decide)) hg (fun k hk e => hk.2 (by injection e)))
  have qL := Kd.R_reads' (Kd.R_grown (Kd.R_types SL.out HZ.out (by decide)) hg (fun k hk e => hk.2 (by injection e)))
  exact ⟨_, _, _, _, _, _, _, _, _, _, rfl, ⟨qF.2.1, by have h := qF.2.2; rw [← qF.1] at h; exact h, qA.2.1, by have h := qA.2.2; rw [← qA.1] at h; exact h, qC.2.1, by have h := qC.2.2; rw [← qC.1] at h; exact h, qT.2.1, by have h := qT.2.2; rw [← qT.1] at h; exact h, qL.2.1, by have h := qL.2.2; rw [← qL.1] at h; exact h⟩, below_setRow HB.out (by omega) _⟩
end Go.Proofs.YtbpediccbeoifaaDoor.W
