/- Texts of this session in one: Gk, Gl -/
import Derived.Test.YtaimjacpenofpaaDoorGw
import Derived.Test.YtaimjacpenofpaaDoorPgb
import Derived.Deep.QuietTactic
import Derived.BigQuiet
/-! ## The law FilterGroups: what it calls. -/
namespace Go.Proofs.YtaimjacpenofpaaDoor.W
open Go.RowKit Go.Proofs.YtaimjacpenofpaaDoorW.PrintWords Go.Proofs.YtaimjacpenofpaaDoorW.PrintLast Go.Proofs.YtaimjacpenofpaaDoor.GC Go.Proofs.YtaimjacpenofpaaDoor.Pc
set_option linter.unusedVariables false
set_option linter.unusedSimpArgs false
set_option maxHeartbeats 4000000
theorem ok_any {l : List S38} (h : ok l) : ∀ x ∈ l, x.f4.f1.length ≤ 1048576 := by
  intro x hx
  obtain ⟨j, hj, rfl⟩ := List.getElem_of_mem hx
  have := (h.node j hj).2.2
  rw [rdN l j hj] at this
  exact this
abbrev KG : Nat := 20000000
/-- copied, roomy: what the law asks of them. -/
theorem copy_any (l : List S38) (A : Option Addr) (c : Nat) (w : World) (hr : Kd.C k38 w A l.length l) (hc : l.length ≤ c) (ho : ok l) :
    Calls Tryd.prog 4 #[.slice A l.length c] w fun e w' => ∃ A' c', e = .returned (.slice A' l.length c') ∧ l.length ≤ c' ∧ Kd.C k38 w' A' l.length l ∧ Below w.heap.size w w' := by
  refine (rosterlaw12_copied.calls KG A c l l w hr hc (cop_f KG (by decide) l ho)).mono ?_
  rintro e w1 ⟨v1, rfl, hS, hb1⟩
  obtain ⟨A', c', rfl, h1, h2⟩ := Kd.S_reads hS
  exact ⟨A', c', rfl, h1, h2, hb1⟩
theorem lit3 {w : World} {A0 A1 A2 : Option Addr} {c0 c1 c2 : Nat} {f g h : List S38} (t : TypeId) (h0 : Kd.C k38 w A0 f.length f) (h1 : Kd.C k38 w A1 g.length g) (h2 : Kd.C k38 w A2 h.length h) (l0 : f.length ≤ c0) (l1 : g.length ≤ c1) (l2 : h.length ≤ c2) :
    Kd.C (Kd.slice 38 k38) (w.alloc (.cells #[.slice A0 f.length c0, .slice A1 g.length c1, .slice A2 h.length c2] t)) (some ⟨w.heap.size, 0, none⟩) 3 [f, g, h] := by
  have hb : Below w.heap.size w (w.alloc (.cells #[.slice A0 f.length c0, .slice A1 g.length c1, .slice A2 h.length c2] t)) := (Below.refl _ _).alloc (Nat.le_refl _) _
  have hc : ∀ i u, (#[Value.slice A0 f.length c0, .slice A1 g.length c1, .slice A2 h.length c2] : Array Value)[i]? = some u → (w.alloc (.cells #[.slice A0 f.length c0, .slice A1 g.length c1, .slice A2 h.length c2] t)).cell? ⟨w.heap.size, i, none⟩ = some u := by
    intro i u hu
    rw [World.cell?]
    simp only [World.alloc]
    simpa using hu
  refine ⟨rfl, by decide, fun _ => ⟨_, rfl, fun j p hj => ?_⟩⟩
  have hj3 : j < 3 := (List.getElem?_eq_some_iff.1 hj).1
  have hadd : ∀ q : Nat, (⟨w.heap.size, 0, none⟩ : Addr).add q = ⟨w.heap.size, q, none⟩ := fun q => by simp [Addr.add]; exact fun h => h.symm
  match j, hj3 with
  | 0, _ => cases hj; exact ⟨[.slice A0 f.length c0], rfl, ⟨A0, c0, rfl, l0, Kd.C_below h0 hb⟩, fun i u hi => by rw [hadd]; cases i with | zero => exact hc 0 u hi | succ i => cases hi⟩
  | 1, _ => cases hj; exact ⟨[.slice A1 g.length c1], rfl, ⟨A1, c1, rfl, l1, Kd.C_below h1 hb⟩, fun i u hi => by rw [hadd]; cases i with | zero => exact hc 1 u hi | succ i => cases hi⟩
  | 2, _ => cases hj; exact ⟨[.slice A2 h.length c2], rfl, ⟨A2, c2, rfl, l2, Kd.C_below h2 hb⟩, fun i u hi => by rw [hadd]; cases i with | zero => exact hc 2 u hi | succ i => cases hi⟩
theorem take_len {m : Nat} (f g h : List S38) (hm : m ≤ 3) : ([f, g, h].take m).length = m := by rw [List.length_take]; show min m 3 = m; omega
theorem take_C {w : World} {A : Option Addr} {f g h : List S38} {m : Nat} (hm : m ≤ 3) (hC : Kd.C (Kd.slice 38 k38) w A 3 [f, g, h]) : Kd.C (Kd.slice 38 k38) w A m ([f, g, h].take m) := by
  have hC' : Kd.C (Kd.slice 38 k38) w A 3 ([f, g, h].take m ++ [f, g, h].drop m) := by rw [List.take_append_drop]; exact hC
  have := C_pre hC'
  rw [take_len f g h hm] at this
  exact this
theorem take_ok {f g h : List S38} (of : ok f) (og : ok g) (oh : ok h) (m : Nat) : ∀ l ∈ [f, g, h].take m, ok l := by
  intro l hl
  have := List.mem_of_mem_take hl
  simp only [List.mem_cons, List.not_mem_nil, or_false] at this
  rcases this with rfl | rfl | rfl
  · exact of
  · exact og
  · exact oh
theorem gref_any (o : Int) (f g h : List S38) (A : Option Addr) (m : Nat) (hm : m ≤ 3) (w : World) (hC : Kd.C (Kd.slice 38 k38) w A 3 [f, g, h]) (hT : W.TabW w) (r : List S38) (e : Int) (hf : rosterref12_Group.f KG o ([f, g, h].take m) = some (r, e)) :
    Calls Tryd.prog 7 #[.int .i64 o, .slice A m 3] w fun en w' => ∃ A' c', en = .returned (.tuple #[.slice A' r.length c', .int .i64 e]) ∧ r.length ≤ c' ∧ Kd.C k38 w' A' r.length r ∧ Below w.heap.size w w' := by
  have hl := take_len f g h hm
  have hV := Kd.V_mk (e := 23) (base := w.heap.size) (c := 3) (by rw [hl]; exact hm) (Kd.C_F (Kd.heap_slice 38 k38_heap) (by rw [hl]; exact take_C hm hC : Kd.C (Kd.slice 38 k38) w A ([f, g, h].take m).length ([f, g, h].take m)))
  have hq := rosterref12_Group.calls KG o (fun k => k < w.heap.size) A 3 ([f, g, h].take m) r e w hV hf hT
  rw [hl] at hq
  refine hq.mono ?_
  rintro en w1 ⟨v, rfl, hN, hb⟩
  obtain ⟨A', c', rfl, h1, h2⟩ := Kd.N_reads hN
  exact ⟨A', c', rfl, h1, h2, hb⟩
theorem gprog_any (o : Int) (f g h : List S38) (A : Option Addr) (m : Nat) (hm : m ≤ 3) (w : World) (hC : Kd.C (Kd.slice 38 k38) w A 3 [f, g, h]) (hT : W.TabW w) (r : List S38) (e : Int) (hf : filter_Group.f KG o ([f, g, h].take m) = some (r, e)) :
    Calls Tryd.prog 8 #[.int .i64 o, .slice A m 3] w fun en w' => ∃ A' c', en = .returned (.tuple #[.slice A' r.length c', .int .i64 e]) ∧ r.length ≤ c' ∧ Kd.C k38 w' A' r.length r ∧ Below w.heap.size w w' := by
  have hl := take_len f g h hm
  have hq := filter_Group.calls KG o A 3 ([f, g, h].take m) r e w (by rw [hl]; exact take_C hm hC) (by rw [hl]; exact hm) hf
  rw [hl] at hq
  refine hq.mono ?_
  rintro en w1 ⟨v, rfl, hN, hb⟩
  obtain ⟨A', c', rfl, h1, h2⟩ := Kd.S_reads hN
  exact ⟨A', c', rfl, h1, h2, hb⟩
end Go.Proofs.YtaimjacpenofpaaDoor.W

/-! ## The law FilterGroups, walked. Written by tools/mk_gl.py. -/
namespace Go.Proofs.YtaimjacpenofpaaDoor.W
open Go.RowKit Go.Proofs.YtaimjacpenofpaaDoorW.PrintWords Go.Proofs.YtaimjacpenofpaaDoorW.PrintLast Go.Proofs.YtaimjacpenofpaaDoor.GC Go.Proofs.YtaimjacpenofpaaDoor.Pc
set_option linter.unusedVariables false
set_option linter.unusedSimpArgs false
set_option maxHeartbeats 4000000
theorem room_plain {w : World} {A : Option Addr} {l : List S38} (h : Kd.C kG w A (l.length + 1) (allG l)) : Kd.C k38 w A l.length l := by
  have := C_pre h
  rw [List.length_map] at this
  have h2 := C_plain this
  rw [fst_up] at h2
  exact h2
theorem own_at {w : World} {b : Nat} {f g h : List S38} (hC : Kd.C (Kd.slice 38 k38) w (some ⟨b, 0, none⟩) 3 [f, g, h]) (i : Nat) (l : List S38) (hi : [f, g, h][i]? = some l) : ∃ A c, w.cell? ⟨b, i, none⟩ = some (.slice A l.length c) ∧ l.length ≤ c ∧ Kd.C k38 w A l.length l := by
  have h3 : i < 3 := (List.getElem?_eq_some_iff.1 hi).1
  obtain ⟨ad, A, c, e, h1, h2, h4⟩ := at_L6 hC (i : Int) (by omega) (by omega)
  cases e
  have e2 : rd_L6 [f, g, h] (i : Int) = l := by unfold rd_L6; rw [List.getD_eq_getElem?_getD, Int.toNat_natCast, hi]; rfl
  rw [e2] at h1 h2 h4
  have e3 : (⟨b, 0, none⟩ : Addr).add (i : Int).toNat = ⟨b, i, none⟩ := by simp [Addr.add]; exact fun h => h.symm
  rw [e3] at h1
  exact ⟨A, c, h1, h2, h4⟩
theorem law_any (o n : Int) (f g h : List S38) (A0 A1 A2 : Option Addr) (c0 c1 c2 : Nat) (w : World) (h0 : Kd.C k38 w A0 f.length f) (h1 : Kd.C k38 w A1 g.length g) (h2 : Kd.C k38 w A2 h.length h)
    (hc0 : f.length ≤ c0) (hc1 : g.length ≤ c1) (hc2 : h.length ≤ c2) (of : ok f) (og : ok g) (oh : ok h) (hT : W.TabW w) :
    Calls Tryd.prog 3 #[.int .i64 o, .int .i64 n, .slice A0 f.length c0, .slice A1 g.length c1, .slice A2 h.length c2] w fun e w' => e = .returned (.bool true) ∧ Below w.heap.size w w' := by
  have H0 := Lib.hid h0
  have H1 := Lib.hid h1
  have H2 := Lib.hid h2
  have HT := Lib.hid hT
  have OF := Lib.hid of
  have OG := Lib.hid og
  have OH := Lib.hid oh
  clear h0 h1 h2 hT of og oh
  go_enter Tryd.func3, Tryd.ntmps3
  go_wp2_with fail
  refine (copy_any f A0 c0 _ H0.out hc0 OF.out).mono ?_
  rintro e wf ⟨Af, cf, rfl, lf, hF, hb⟩
  have HCf := Lib.hid hF
  have HB := Lib.hid hb
  replace HT := Lib.hid (W.TabW.at HT.out hb)
  replace H0 := Lib.hid (Kd.C_below H0.out hb)
  replace H1 := Lib.hid (Kd.C_below H1.out hb)
  replace H2 := Lib.hid (Kd.C_below H2.out hb)
  clear hF hb
  go_wp2_with fail
  refine (copy_any g A1 c1 _ H1.out hc1 OG.out).mono ?_
  rintro e wg ⟨Ag, cg, rfl, lg, hF, hb⟩
  have HCg := Lib.hid hF
  replace HB := Lib.hid (below_step HB.out hb)
  replace HT := Lib.hid (W.TabW.at HT.out hb)
  replace H0 := Lib.hid (Kd.C_below H0.out hb)
  replace H1 := Lib.hid (Kd.C_below H1.out hb)
  replace H2 := Lib.hid (Kd.C_below H2.out hb)
  replace HCf := Lib.hid (Kd.C_below HCf.out hb)
  clear hF hb
  go_wp2_with fail
  refine (copy_any h A2 c2 _ H2.out hc2 OH.out).mono ?_
  rintro e wh ⟨Ah, ch, rfl, lh, hF, hb⟩
  have HCh := Lib.hid hF
  replace HB := Lib.hid (below_step HB.out hb)
  replace HT := Lib.hid (W.TabW.at HT.out hb)
  replace H0 := Lib.hid (Kd.C_below H0.out hb)
  replace H1 := Lib.hid (Kd.C_below H1.out hb)
  replace H2 := Lib.hid (Kd.C_below H2.out hb)
  replace HCf := Lib.hid (Kd.C_below HCf.out hb)
  replace HCg := Lib.hid (Kd.C_below HCg.out hb)
  clear hF hb
  go_wp2_with fail
  have HL := Lib.hid (lit3 23 HCf.out HCg.out HCh.out lf lg lh)
  generalize hwd : World.alloc _ _ = wd at HL ⊢
  have hb : Below wh.heap.size wh wd := by rw [← hwd]; exact (Below.refl _ _).alloc (Nat.le_refl _) _
  clear hwd
  replace HB := Lib.hid (below_step HB.out hb)
  replace HT := Lib.hid (W.TabW.at HT.out hb)
  replace H0 := Lib.hid (Kd.C_below H0.out hb)
  replace H1 := Lib.hid (Kd.C_below H1.out hb)
  replace H2 := Lib.hid (Kd.C_below H2.out hb)
  replace HCf := Lib.hid (Kd.C_below HCf.out hb)
  replace HCg := Lib.hid (Kd.C_below HCg.out hb)
  replace HCh := Lib.hid (Kd.C_below HCh.out hb)
  clear hb
  refine (roomy_any KG f A0 c0 _ H0.out hc0 (cop_f KG (by decide) f OF.out) OF.out.len (ok_any OF.out)).mono ?_
  rintro e wr0 ⟨R0, cr0, rfl, lr0, hR, hb⟩
  have HR0 := Lib.hid hR
  replace HB := Lib.hid (below_step HB.out hb)
  replace HT := Lib.hid (W.TabW.at HT.out hb)
  replace H0 := Lib.hid (Kd.C_below H0.out hb)
  replace H1 := Lib.hid (Kd.C_below H1.out hb)
  replace H2 := Lib.hid (Kd.C_below H2.out hb)
  replace HCf := Lib.hid (Kd.C_below HCf.out hb)
  replace HCg := Lib.hid (Kd.C_below HCg.out hb)
  replace HCh := Lib.hid (Kd.C_below HCh.out hb)
  replace HL := Lib.hid (Kd.C_below HL.out hb)
  clear hR hb
  go_wp2_with fail
  refine (roomy_any KG g A1 c1 _ H1.out hc1 (cop_f KG (by decide) g OG.out) OG.out.len (ok_any OG.out)).mono ?_
  rintro e wr1 ⟨R1, cr1, rfl, lr1, hR, hb⟩
  have HR1 := Lib.hid hR
  replace HB := Lib.hid (below_step HB.out hb)
  replace HT := Lib.hid (W.TabW.at HT.out hb)
  replace H0 := Lib.hid (Kd.C_below H0.out hb)
  replace H1 := Lib.hid (Kd.C_below H1.out hb)
  replace H2 := Lib.hid (Kd.C_below H2.out hb)
  replace HCf := Lib.hid (Kd.C_below HCf.out hb)
  replace HCg := Lib.hid (Kd.C_below HCg.out hb)
  replace HCh := Lib.hid (Kd.C_below HCh.out hb)
  replace HL := Lib.hid (Kd.C_below HL.out hb)
  replace HR0 := Lib.hid (Kd.C_below HR0.out hb)
  clear hR hb
  go_wp2_with fail
  refine (roomy_any KG h A2 c2 _ H2.out hc2 (cop_f KG (by decide) h OH.out) OH.out.len (ok_any OH.out)).mono ?_
  rintro e wr2 ⟨R2, cr2, rfl, lr2, hR, hb⟩
  have HR2 := Lib.hid hR
  replace HB := Lib.hid (below_step HB.out hb)
  replace HT := Lib.hid (W.TabW.at HT.out hb)
  replace H0 := Lib.hid (Kd.C_below H0.out hb)
  replace H1 := Lib.hid (Kd.C_below H1.out hb)
  replace H2 := Lib.hid (Kd.C_below H2.out hb)
  replace HCf := Lib.hid (Kd.C_below HCf.out hb)
  replace HCg := Lib.hid (Kd.C_below HCg.out hb)
  replace HCh := Lib.hid (Kd.C_below HCh.out hb)
  replace HL := Lib.hid (Kd.C_below HL.out hb)
  replace HR0 := Lib.hid (Kd.C_below HR0.out hb)
  replace HR1 := Lib.hid (Kd.C_below HR1.out hb)
  clear hR hb
  go_wp2_with fail
  refine (heads_any f R0 cr0 _ HR0.out lr0 OF.out.len).mono ?_
  rintro e we0 ⟨E0, ce0, rfl, le0, hE, hb⟩
  have HE0 := Lib.hid hE
  replace HB := Lib.hid (below_step HB.out hb)
  replace HT := Lib.hid (W.TabW.at HT.out hb)
  replace H0 := Lib.hid (Kd.C_below H0.out hb)
  replace H1 := Lib.hid (Kd.C_below H1.out hb)
  replace H2 := Lib.hid (Kd.C_below H2.out hb)
  replace HCf := Lib.hid (Kd.C_below HCf.out hb)
  replace HCg := Lib.hid (Kd.C_below HCg.out hb)
  replace HCh := Lib.hid (Kd.C_below HCh.out hb)
  replace HL := Lib.hid (Kd.C_below HL.out hb)
  replace HR0 := Lib.hid (Kd.C_below HR0.out hb)
  replace HR1 := Lib.hid (Kd.C_below HR1.out hb)
  replace HR2 := Lib.hid (Kd.C_below HR2.out hb)
  clear hE hb
  go_wp2_with fail
  refine (heads_any g R1 cr1 _ HR1.out lr1 OG.out.len).mono ?_
  rintro e we1 ⟨E1, ce1, rfl, le1, hE, hb⟩
  have HE1 := Lib.hid hE
  replace HB := Lib.hid (below_step HB.out hb)
  replace HT := Lib.hid (W.TabW.at HT.out hb)
  replace H0 := Lib.hid (Kd.C_below H0.out hb)
  replace H1 := Lib.hid (Kd.C_below H1.out hb)
  replace H2 := Lib.hid (Kd.C_below H2.out hb)
  replace HCf := Lib.hid (Kd.C_below HCf.out hb)
  replace HCg := Lib.hid (Kd.C_below HCg.out hb)
  replace HCh := Lib.hid (Kd.C_below HCh.out hb)
  replace HL := Lib.hid (Kd.C_below HL.out hb)
  replace HR0 := Lib.hid (Kd.C_below HR0.out hb)
  replace HR1 := Lib.hid (Kd.C_below HR1.out hb)
  replace HR2 := Lib.hid (Kd.C_below HR2.out hb)
  replace HE0 := Lib.hid (Kd.C_below HE0.out hb)
  clear hE hb
  go_wp2_with fail
  refine (heads_any h R2 cr2 _ HR2.out lr2 OH.out.len).mono ?_
  rintro e we2 ⟨E2, ce2, rfl, le2, hE, hb⟩
  have HE2 := Lib.hid hE
  replace HB := Lib.hid (below_step HB.out hb)
  replace HT := Lib.hid (W.TabW.at HT.out hb)
  replace H0 := Lib.hid (Kd.C_below H0.out hb)
  replace H1 := Lib.hid (Kd.C_below H1.out hb)
  replace H2 := Lib.hid (Kd.C_below H2.out hb)
  replace HCf := Lib.hid (Kd.C_below HCf.out hb)
  replace HCg := Lib.hid (Kd.C_below HCg.out hb)
  replace HCh := Lib.hid (Kd.C_below HCh.out hb)
  replace HL := Lib.hid (Kd.C_below HL.out hb)
  replace HR0 := Lib.hid (Kd.C_below HR0.out hb)
  replace HR1 := Lib.hid (Kd.C_below HR1.out hb)
  replace HR2 := Lib.hid (Kd.C_below HR2.out hb)
  replace HE0 := Lib.hid (Kd.C_below HE0.out hb)
  replace HE1 := Lib.hid (Kd.C_below HE1.out hb)
  clear hE hb
  rcases (show (0 ≤ n ∧ n ≤ 3) ∨ n < 0 ∨ (0 ≤ n ∧ 3 < n) by omega) with ⟨hn0, hn3⟩ | hn | ⟨hn, hn3⟩
  · obtain ⟨m, rfl⟩ : ∃ m : Nat, n = (m : Int) := ⟨n.toNat, by omega⟩
    have hm : m ≤ 3 := by omega
    have hn1 : ¬ (m : Int) < 0 := by omega
    have hn2 : ¬ (3 : Int) < (m : Int) := by omega
    have hn4 : ¬ (m : Int) > 3 := by omega
    obtain ⟨r, e, hr1, hr2, hfit⟩ := group_f o ([f, g, h].take m) (take_ok OF.out OG.out OH.out m) (by rw [take_len f g h hm]; exact hm) KG (by decide)
    have HG1 := Lib.hid hr1
    have HG2 := Lib.hid hr2
    have HFI := Lib.hid hfit
    clear hr1 hr2 hfit
    go_wp2_with fail
    have HS := Lib.hid (lit3 23 (room_plain HR0.out) (room_plain HR1.out) (room_plain HR2.out) (Nat.le_of_succ_le lr0) (Nat.le_of_succ_le lr1) (Nat.le_of_succ_le lr2))
    generalize hwd : World.alloc _ _ = wd2 at HS ⊢
    have hb : Below we2.heap.size we2 wd2 := by rw [← hwd]; exact (Below.refl _ _).alloc (Nat.le_refl _) _
    clear hwd
    replace HB := Lib.hid (below_step HB.out hb)
    replace HT := Lib.hid (W.TabW.at HT.out hb)
    replace H0 := Lib.hid (Kd.C_below H0.out hb)
    replace H1 := Lib.hid (Kd.C_below H1.out hb)
    replace H2 := Lib.hid (Kd.C_below H2.out hb)
    replace HCf := Lib.hid (Kd.C_below HCf.out hb)
    replace HCg := Lib.hid (Kd.C_below HCg.out hb)
    replace HCh := Lib.hid (Kd.C_below HCh.out hb)
    replace HL := Lib.hid (Kd.C_below HL.out hb)
    replace HR0 := Lib.hid (Kd.C_below HR0.out hb)
    replace HR1 := Lib.hid (Kd.C_below HR1.out hb)
    replace HR2 := Lib.hid (Kd.C_below HR2.out hb)
    replace HE0 := Lib.hid (Kd.C_below HE0.out hb)
    replace HE1 := Lib.hid (Kd.C_below HE1.out hb)
    replace HE2 := Lib.hid (Kd.C_below HE2.out hb)
    clear hb
    refine (gref_any o f g h _ m hm _ HL.out HT.out r e HG1.out).mono ?_
    rintro en wg ⟨W1, cw1, rfl, lw1, hW, hb⟩
    have HW1 := Lib.hid hW
    replace HB := Lib.hid (below_step HB.out hb)
    replace HT := Lib.hid (W.TabW.at HT.out hb)
    replace H0 := Lib.hid (Kd.C_below H0.out hb)
    replace H1 := Lib.hid (Kd.C_below H1.out hb)
    replace H2 := Lib.hid (Kd.C_below H2.out hb)
    replace HCf := Lib.hid (Kd.C_below HCf.out hb)
    replace HCg := Lib.hid (Kd.C_below HCg.out hb)
    replace HCh := Lib.hid (Kd.C_below HCh.out hb)
    replace HL := Lib.hid (Kd.C_below HL.out hb)
    replace HR0 := Lib.hid (Kd.C_below HR0.out hb)
    replace HR1 := Lib.hid (Kd.C_below HR1.out hb)
    replace HR2 := Lib.hid (Kd.C_below HR2.out hb)
    replace HE0 := Lib.hid (Kd.C_below HE0.out hb)
    replace HE1 := Lib.hid (Kd.C_below HE1.out hb)
    replace HE2 := Lib.hid (Kd.C_below HE2.out hb)
    replace HS := Lib.hid (Kd.C_below HS.out hb)
    clear hW hb
    go_wp2_with fail
    refine (gprog_any o f g h _ m hm _ HS.out HT.out r e HG2.out).mono ?_
    rintro en wp ⟨W2, cw2, rfl, lw2, hW, hb⟩
    have HW2 := Lib.hid hW
    replace HB := Lib.hid (below_step HB.out hb)
    replace HT := Lib.hid (W.TabW.at HT.out hb)
    replace H0 := Lib.hid (Kd.C_below H0.out hb)
    replace H1 := Lib.hid (Kd.C_below H1.out hb)
    replace H2 := Lib.hid (Kd.C_below H2.out hb)
    replace HCf := Lib.hid (Kd.C_below HCf.out hb)
    replace HCg := Lib.hid (Kd.C_below HCg.out hb)
    replace HCh := Lib.hid (Kd.C_below HCh.out hb)
    replace HL := Lib.hid (Kd.C_below HL.out hb)
    replace HR0 := Lib.hid (Kd.C_below HR0.out hb)
    replace HR1 := Lib.hid (Kd.C_below HR1.out hb)
    replace HR2 := Lib.hid (Kd.C_below HR2.out hb)
    replace HE0 := Lib.hid (Kd.C_below HE0.out hb)
    replace HE1 := Lib.hid (Kd.C_below HE1.out hb)
    replace HE2 := Lib.hid (Kd.C_below HE2.out hb)
    replace HS := Lib.hid (Kd.C_below HS.out hb)
    replace HW1 := Lib.hid (Kd.C_below HW1.out hb)
    clear hW hb
    go_wp2_with fail
    refine (rosterlaw12_same.calls KG W2 cw2 r W1 cw1 r true _ HW2.out lw2 HW1.out lw1 (sameG_f r HFI.out KG (by decide))).mono ?_
    rintro en ws ⟨rfl, hb⟩
    replace HB := Lib.hid (below_step HB.out hb)
    replace HT := Lib.hid (W.TabW.at HT.out hb)
    replace H0 := Lib.hid (Kd.C_below H0.out hb)
    replace H1 := Lib.hid (Kd.C_below H1.out hb)
    replace H2 := Lib.hid (Kd.C_below H2.out hb)
    replace HCf := Lib.hid (Kd.C_below HCf.out hb)
    replace HCg := Lib.hid (Kd.C_below HCg.out hb)
    replace HCh := Lib.hid (Kd.C_below HCh.out hb)
    replace HL := Lib.hid (Kd.C_below HL.out hb)
    replace HR0 := Lib.hid (Kd.C_below HR0.out hb)
    replace HR1 := Lib.hid (Kd.C_below HR1.out hb)
    replace HR2 := Lib.hid (Kd.C_below HR2.out hb)
    replace HE0 := Lib.hid (Kd.C_below HE0.out hb)
    replace HE1 := Lib.hid (Kd.C_below HE1.out hb)
    replace HE2 := Lib.hid (Kd.C_below HE2.out hb)
    replace HS := Lib.hid (Kd.C_below HS.out hb)
    replace HW1 := Lib.hid (Kd.C_below HW1.out hb)
    replace HW2 := Lib.hid (Kd.C_below HW2.out hb)
    clear hb
    obtain ⟨P0, p0, xp, lp0, hP⟩ := own_at HL.out 0 f rfl
    have HP0 := Lib.hid hP
    clear hP
    go_wp2_with fail
    refine (spared_any KG (by decide) f R0 cr0 E0 ce0 P0 p0 _ lr0 HR0.out le0 HE0.out HP0.out lp0 OF.out.len (ok_any OF.out) (same_f f OF.out KG (by decide))).mono ?_
    rintro en wq0 ⟨rfl, hb⟩
    replace HB := Lib.hid (below_step HB.out hb)
    replace HT := Lib.hid (W.TabW.at HT.out hb)
    replace H0 := Lib.hid (Kd.C_below H0.out hb)
    replace H1 := Lib.hid (Kd.C_below H1.out hb)
    replace H2 := Lib.hid (Kd.C_below H2.out hb)
    replace HCf := Lib.hid (Kd.C_below HCf.out hb)
    replace HCg := Lib.hid (Kd.C_below HCg.out hb)
    replace HCh := Lib.hid (Kd.C_below HCh.out hb)
    replace HL := Lib.hid (Kd.C_below HL.out hb)
    replace HR0 := Lib.hid (Kd.C_below HR0.out hb)
    replace HR1 := Lib.hid (Kd.C_below HR1.out hb)
    replace HR2 := Lib.hid (Kd.C_below HR2.out hb)
    replace HE0 := Lib.hid (Kd.C_below HE0.out hb)
    replace HE1 := Lib.hid (Kd.C_below HE1.out hb)
    replace HE2 := Lib.hid (Kd.C_below HE2.out hb)
    replace HS := Lib.hid (Kd.C_below HS.out hb)
    replace HW1 := Lib.hid (Kd.C_below HW1.out hb)
    replace HW2 := Lib.hid (Kd.C_below HW2.out hb)
    clear hb xp
    obtain ⟨P1, p1, xp, lp1, hP⟩ := own_at HL.out 1 g rfl
    have HP1 := Lib.hid hP
    clear hP
    go_wp2_with fail
    refine (spared_any KG (by decide) g R1 cr1 E1 ce1 P1 p1 _ lr1 HR1.out le1 HE1.out HP1.out lp1 OG.out.len (ok_any OG.out) (same_f g OG.out KG (by decide))).mono ?_
    rintro en wq1 ⟨rfl, hb⟩
    replace HB := Lib.hid (below_step HB.out hb)
    replace HT := Lib.hid (W.TabW.at HT.out hb)
    replace H0 := Lib.hid (Kd.C_below H0.out hb)
    replace H1 := Lib.hid (Kd.C_below H1.out hb)
    replace H2 := Lib.hid (Kd.C_below H2.out hb)
    replace HCf := Lib.hid (Kd.C_below HCf.out hb)
    replace HCg := Lib.hid (Kd.C_below HCg.out hb)
    replace HCh := Lib.hid (Kd.C_below HCh.out hb)
    replace HL := Lib.hid (Kd.C_below HL.out hb)
    replace HR0 := Lib.hid (Kd.C_below HR0.out hb)
    replace HR1 := Lib.hid (Kd.C_below HR1.out hb)
    replace HR2 := Lib.hid (Kd.C_below HR2.out hb)
    replace HE0 := Lib.hid (Kd.C_below HE0.out hb)
    replace HE1 := Lib.hid (Kd.C_below HE1.out hb)
    replace HE2 := Lib.hid (Kd.C_below HE2.out hb)
    replace HS := Lib.hid (Kd.C_below HS.out hb)
    replace HW1 := Lib.hid (Kd.C_below HW1.out hb)
    replace HW2 := Lib.hid (Kd.C_below HW2.out hb)
    clear hb xp
    obtain ⟨P2, p2, xp, lp2, hP⟩ := own_at HL.out 2 h rfl
    have HP2 := Lib.hid hP
    clear hP
    go_wp2_with fail
    refine (spared_any KG (by decide) h R2 cr2 E2 ce2 P2 p2 _ lr2 HR2.out le2 HE2.out HP2.out lp2 OH.out.len (ok_any OH.out) (same_f h OH.out KG (by decide))).mono ?_
    rintro en wq2 ⟨rfl, hb⟩
    replace HB := Lib.hid (below_step HB.out hb)
    replace HT := Lib.hid (W.TabW.at HT.out hb)
    replace H0 := Lib.hid (Kd.C_below H0.out hb)
    replace H1 := Lib.hid (Kd.C_below H1.out hb)
    replace H2 := Lib.hid (Kd.C_below H2.out hb)
    replace HCf := Lib.hid (Kd.C_below HCf.out hb)
    replace HCg := Lib.hid (Kd.C_below HCg.out hb)
    replace HCh := Lib.hid (Kd.C_below HCh.out hb)
    replace HL := Lib.hid (Kd.C_below HL.out hb)
    replace HR0 := Lib.hid (Kd.C_below HR0.out hb)
    replace HR1 := Lib.hid (Kd.C_below HR1.out hb)
    replace HR2 := Lib.hid (Kd.C_below HR2.out hb)
    replace HE0 := Lib.hid (Kd.C_below HE0.out hb)
    replace HE1 := Lib.hid (Kd.C_below HE1.out hb)
    replace HE2 := Lib.hid (Kd.C_below HE2.out hb)
    replace HS := Lib.hid (Kd.C_below HS.out hb)
    replace HW1 := Lib.hid (Kd.C_below HW1.out hb)
    replace HW2 := Lib.hid (Kd.C_below HW2.out hb)
    clear hb xp
    go_wp2_with fail
    refine (filter_Group.calls KG 1 none 0 [] [headN 1] 0 _ (Kd.C_nil _ _) (Nat.le_refl _) (group_none KG (by decide))).mono ?_
    rintro en wz ⟨v, rfl, hN, hb⟩
    obtain ⟨Az, cz, rfl, hz1, hz2⟩ := Kd.S_reads hN
    replace HB := Lib.hid (below_step HB.out hb)
    clear hN hb hz2
    go_wp2
    go_ret
    exact ⟨rfl, HB.out⟩
  · skip
    obtain ⟨r, e, hr1, hr2, hfit⟩ := group_f o ([f, g, h].take 3) (take_ok OF.out OG.out OH.out 3) (by rw [take_len f g h (Nat.le_refl 3)]; exact (Nat.le_refl 3)) KG (by decide)
    have HG1 := Lib.hid hr1
    have HG2 := Lib.hid hr2
    have HFI := Lib.hid hfit
    clear hr1 hr2 hfit
    go_wp2_with fail
    have HS := Lib.hid (lit3 23 (room_plain HR0.out) (room_plain HR1.out) (room_plain HR2.out) (Nat.le_of_succ_le lr0) (Nat.le_of_succ_le lr1) (Nat.le_of_succ_le lr2))
    generalize hwd : World.alloc _ _ = wd2 at HS ⊢
    have hb : Below we2.heap.size we2 wd2 := by rw [← hwd]; exact (Below.refl _ _).alloc (Nat.le_refl _) _
    clear hwd
    replace HB := Lib.hid (below_step HB.out hb)
    replace HT := Lib.hid (W.TabW.at HT.out hb)
    replace H0 := Lib.hid (Kd.C_below H0.out hb)
    replace H1 := Lib.hid (Kd.C_below H1.out hb)
    replace H2 := Lib.hid (Kd.C_below H2.out hb)
    replace HCf := Lib.hid (Kd.C_below HCf.out hb)
    replace HCg := Lib.hid (Kd.C_below HCg.out hb)
    replace HCh := Lib.hid (Kd.C_below HCh.out hb)
    replace HL := Lib.hid (Kd.C_below HL.out hb)
    replace HR0 := Lib.hid (Kd.C_below HR0.out hb)
    replace HR1 := Lib.hid (Kd.C_below HR1.out hb)
    replace HR2 := Lib.hid (Kd.C_below HR2.out hb)
    replace HE0 := Lib.hid (Kd.C_below HE0.out hb)
    replace HE1 := Lib.hid (Kd.C_below HE1.out hb)
    replace HE2 := Lib.hid (Kd.C_below HE2.out hb)
    clear hb
    refine (gref_any o f g h _ 3 (Nat.le_refl 3) _ HL.out HT.out r e HG1.out).mono ?_
    rintro en wg ⟨W1, cw1, rfl, lw1, hW, hb⟩
    have HW1 := Lib.hid hW
    replace HB := Lib.hid (below_step HB.out hb)
    replace HT := Lib.hid (W.TabW.at HT.out hb)
    replace H0 := Lib.hid (Kd.C_below H0.out hb)
    replace H1 := Lib.hid (Kd.C_below H1.out hb)
    replace H2 := Lib.hid (Kd.C_below H2.out hb)
    replace HCf := Lib.hid (Kd.C_below HCf.out hb)
    replace HCg := Lib.hid (Kd.C_below HCg.out hb)
    replace HCh := Lib.hid (Kd.C_below HCh.out hb)
    replace HL := Lib.hid (Kd.C_below HL.out hb)
    replace HR0 := Lib.hid (Kd.C_below HR0.out hb)
    replace HR1 := Lib.hid (Kd.C_below HR1.out hb)
    replace HR2 := Lib.hid (Kd.C_below HR2.out hb)
    replace HE0 := Lib.hid (Kd.C_below HE0.out hb)
    replace HE1 := Lib.hid (Kd.C_below HE1.out hb)
    replace HE2 := Lib.hid (Kd.C_below HE2.out hb)
    replace HS := Lib.hid (Kd.C_below HS.out hb)
    clear hW hb
    go_wp2_with fail
    refine (gprog_any o f g h _ 3 (Nat.le_refl 3) _ HS.out HT.out r e HG2.out).mono ?_
    rintro en wp ⟨W2, cw2, rfl, lw2, hW, hb⟩
    have HW2 := Lib.hid hW
    replace HB := Lib.hid (below_step HB.out hb)
    replace HT := Lib.hid (W.TabW.at HT.out hb)
    replace H0 := Lib.hid (Kd.C_below H0.out hb)
    replace H1 := Lib.hid (Kd.C_below H1.out hb)
    replace H2 := Lib.hid (Kd.C_below H2.out hb)
    replace HCf := Lib.hid (Kd.C_below HCf.out hb)
    replace HCg := Lib.hid (Kd.C_below HCg.out hb)
    replace HCh := Lib.hid (Kd.C_below HCh.out hb)
    replace HL := Lib.hid (Kd.C_below HL.out hb)
    replace HR0 := Lib.hid (Kd.C_below HR0.out hb)
    replace HR1 := Lib.hid (Kd.C_below HR1.out hb)
    replace HR2 := Lib.hid (Kd.C_below HR2.out hb)
    replace HE0 := Lib.hid (Kd.C_below HE0.out hb)
    replace HE1 := Lib.hid (Kd.C_below HE1.out hb)
    replace HE2 := Lib.hid (Kd.C_below HE2.out hb)
    replace HS := Lib.hid (Kd.C_below HS.out hb)
    replace HW1 := Lib.hid (Kd.C_below HW1.out hb)
    clear hW hb
    go_wp2_with fail
    refine (rosterlaw12_same.calls KG W2 cw2 r W1 cw1 r true _ HW2.out lw2 HW1.out lw1 (sameG_f r HFI.out KG (by decide))).mono ?_
    rintro en ws ⟨rfl, hb⟩
    replace HB := Lib.hid (below_step HB.out hb)
    replace HT := Lib.hid (W.TabW.at HT.out hb)
    replace H0 := Lib.hid (Kd.C_below H0.out hb)
    replace H1 := Lib.hid (Kd.C_below H1.out hb)
    replace H2 := Lib.hid (Kd.C_below H2.out hb)
    replace HCf := Lib.hid (Kd.C_below HCf.out hb)
    replace HCg := Lib.hid (Kd.C_below HCg.out hb)
    replace HCh := Lib.hid (Kd.C_below HCh.out hb)
    replace HL := Lib.hid (Kd.C_below HL.out hb)
    replace HR0 := Lib.hid (Kd.C_below HR0.out hb)
    replace HR1 := Lib.hid (Kd.C_below HR1.out hb)
    replace HR2 := Lib.hid (Kd.C_below HR2.out hb)
    replace HE0 := Lib.hid (Kd.C_below HE0.out hb)
    replace HE1 := Lib.hid (Kd.C_below HE1.out hb)
    replace HE2 := Lib.hid (Kd.C_below HE2.out hb)
    replace HS := Lib.hid (Kd.C_below HS.out hb)
    replace HW1 := Lib.hid (Kd.C_below HW1.out hb)
    replace HW2 := Lib.hid (Kd.C_below HW2.out hb)
    clear hb
    obtain ⟨P0, p0, xp, lp0, hP⟩ := own_at HL.out 0 f rfl
    have HP0 := Lib.hid hP
    clear hP
    go_wp2_with fail
    refine (spared_any KG (by decide) f R0 cr0 E0 ce0 P0 p0 _ lr0 HR0.out le0 HE0.out HP0.out lp0 OF.out.len (ok_any OF.out) (same_f f OF.out KG (by decide))).mono ?_
    rintro en wq0 ⟨rfl, hb⟩
    replace HB := Lib.hid (below_step HB.out hb)
    replace HT := Lib.hid (W.TabW.at HT.out hb)
    replace H0 := Lib.hid (Kd.C_below H0.out hb)
    replace H1 := Lib.hid (Kd.C_below H1.out hb)
    replace H2 := Lib.hid (Kd.C_below H2.out hb)
    replace HCf := Lib.hid (Kd.C_below HCf.out hb)
    replace HCg := Lib.hid (Kd.C_below HCg.out hb)
    replace HCh := Lib.hid (Kd.C_below HCh.out hb)
    replace HL := Lib.hid (Kd.C_below HL.out hb)
    replace HR0 := Lib.hid (Kd.C_below HR0.out hb)
    replace HR1 := Lib.hid (Kd.C_below HR1.out hb)
    replace HR2 := Lib.hid (Kd.C_below HR2.out hb)
    replace HE0 := Lib.hid (Kd.C_below HE0.out hb)
    replace HE1 := Lib.hid (Kd.C_below HE1.out hb)
    replace HE2 := Lib.hid (Kd.C_below HE2.out hb)
    replace HS := Lib.hid (Kd.C_below HS.out hb)
    replace HW1 := Lib.hid (Kd.C_below HW1.out hb)
    replace HW2 := Lib.hid (Kd.C_below HW2.out hb)
    clear hb xp
    obtain ⟨P1, p1, xp, lp1, hP⟩ := own_at HL.out 1 g rfl
    have HP1 := Lib.hid hP
    clear hP
    go_wp2_with fail
    refine (spared_any KG (by decide) g R1 cr1 E1 ce1 P1 p1 _ lr1 HR1.out le1 HE1.out HP1.out lp1 OG.out.len (ok_any OG.out) (same_f g OG.out KG (by decide))).mono ?_
    rintro en wq1 ⟨rfl, hb⟩
    replace HB := Lib.hid (below_step HB.out hb)
    replace HT := Lib.hid (W.TabW.at HT.out hb)
    replace H0 := Lib.hid (Kd.C_below H0.out hb)
    replace H1 := Lib.hid (Kd.C_below H1.out hb)
    replace H2 := Lib.hid (Kd.C_below H2.out hb)
    replace HCf := Lib.hid (Kd.C_below HCf.out hb)
    replace HCg := Lib.hid (Kd.C_below HCg.out hb)
    replace HCh := Lib.hid (Kd.C_below HCh.out hb)
    replace HL := Lib.hid (Kd.C_below HL.out hb)
    replace HR0 := Lib.hid (Kd.C_below HR0.out hb)
    replace HR1 := Lib.hid (Kd.C_below HR1.out hb)
    replace HR2 := Lib.hid (Kd.C_below HR2.out hb)
    replace HE0 := Lib.hid (Kd.C_below HE0.out hb)
    replace HE1 := Lib.hid (Kd.C_below HE1.out hb)
    replace HE2 := Lib.hid (Kd.C_below HE2.out hb)
    replace HS := Lib.hid (Kd.C_below HS.out hb)
    replace HW1 := Lib.hid (Kd.C_below HW1.out hb)
    replace HW2 := Lib.hid (Kd.C_below HW2.out hb)
    clear hb xp
    obtain ⟨P2, p2, xp, lp2, hP⟩ := own_at HL.out 2 h rfl
    have HP2 := Lib.hid hP
    clear hP
    go_wp2_with fail
    refine (spared_any KG (by decide) h R2 cr2 E2 ce2 P2 p2 _ lr2 HR2.out le2 HE2.out HP2.out lp2 OH.out.len (ok_any OH.out) (same_f h OH.out KG (by decide))).mono ?_
    rintro en wq2 ⟨rfl, hb⟩
    replace HB := Lib.hid (below_step HB.out hb)
    replace HT := Lib.hid (W.TabW.at HT.out hb)
    replace H0 := Lib.hid (Kd.C_below H0.out hb)
    replace H1 := Lib.hid (Kd.C_below H1.out hb)
    replace H2 := Lib.hid (Kd.C_below H2.out hb)
    replace HCf := Lib.hid (Kd.C_below HCf.out hb)
    replace HCg := Lib.hid (Kd.C_below HCg.out hb)
    replace HCh := Lib.hid (Kd.C_below HCh.out hb)
    replace HL := Lib.hid (Kd.C_below HL.out hb)
    replace HR0 := Lib.hid (Kd.C_below HR0.out hb)
    replace HR1 := Lib.hid (Kd.C_below HR1.out hb)
    replace HR2 := Lib.hid (Kd.C_below HR2.out hb)
    replace HE0 := Lib.hid (Kd.C_below HE0.out hb)
    replace HE1 := Lib.hid (Kd.C_below HE1.out hb)
    replace HE2 := Lib.hid (Kd.C_below HE2.out hb)
    replace HS := Lib.hid (Kd.C_below HS.out hb)
    replace HW1 := Lib.hid (Kd.C_below HW1.out hb)
    replace HW2 := Lib.hid (Kd.C_below HW2.out hb)
    clear hb xp
    go_wp2_with fail
    refine (filter_Group.calls KG 1 none 0 [] [headN 1] 0 _ (Kd.C_nil _ _) (Nat.le_refl _) (group_none KG (by decide))).mono ?_
    rintro en wz ⟨v, rfl, hN, hb⟩
    obtain ⟨Az, cz, rfl, hz1, hz2⟩ := Kd.S_reads hN
    replace HB := Lib.hid (below_step HB.out hb)
    clear hN hb hz2
    go_wp2
    go_ret
    exact ⟨rfl, HB.out⟩
  · have hn1 : ¬ n < 0 := by omega
    obtain ⟨r, e, hr1, hr2, hfit⟩ := group_f o ([f, g, h].take 3) (take_ok OF.out OG.out OH.out 3) (by rw [take_len f g h (Nat.le_refl 3)]; exact (Nat.le_refl 3)) KG (by decide)
    have HG1 := Lib.hid hr1
    have HG2 := Lib.hid hr2
    have HFI := Lib.hid hfit
    clear hr1 hr2 hfit
    go_wp2_with fail
    have HS := Lib.hid (lit3 23 (room_plain HR0.out) (room_plain HR1.out) (room_plain HR2.out) (Nat.le_of_succ_le lr0) (Nat.le_of_succ_le lr1) (Nat.le_of_succ_le lr2))
    generalize hwd : World.alloc _ _ = wd2 at HS ⊢
    have hb : Below we2.heap.size we2 wd2 := by rw [← hwd]; exact (Below.refl _ _).alloc (Nat.le_refl _) _
    clear hwd
    replace HB := Lib.hid (below_step HB.out hb)
    replace HT := Lib.hid (W.TabW.at HT.out hb)
    replace H0 := Lib.hid (Kd.C_below H0.out hb)
    replace H1 := Lib.hid (Kd.C_below H1.out hb)
    replace H2 := Lib.hid (Kd.C_below H2.out hb)
    replace HCf := Lib.hid (Kd.C_below HCf.out hb)
    replace HCg := Lib.hid (Kd.C_below HCg.out hb)
    replace HCh := Lib.hid (Kd.C_below HCh.out hb)
    replace HL := Lib.hid (Kd.C_below HL.out hb)
    replace HR0 := Lib.hid (Kd.C_below HR0.out hb)
    replace HR1 := Lib.hid (Kd.C_below HR1.out hb)
    replace HR2 := Lib.hid (Kd.C_below HR2.out hb)
    replace HE0 := Lib.hid (Kd.C_below HE0.out hb)
    replace HE1 := Lib.hid (Kd.C_below HE1.out hb)
    replace HE2 := Lib.hid (Kd.C_below HE2.out hb)
    clear hb
    refine (gref_any o f g h _ 3 (Nat.le_refl 3) _ HL.out HT.out r e HG1.out).mono ?_
    rintro en wg ⟨W1, cw1, rfl, lw1, hW, hb⟩
    have HW1 := Lib.hid hW
    replace HB := Lib.hid (below_step HB.out hb)
    replace HT := Lib.hid (W.TabW.at HT.out hb)
    replace H0 := Lib.hid (Kd.C_below H0.out hb)
    replace H1 := Lib.hid (Kd.C_below H1.out hb)
    replace H2 := Lib.hid (Kd.C_below H2.out hb)
    replace HCf := Lib.hid (Kd.C_below HCf.out hb)
    replace HCg := Lib.hid (Kd.C_below HCg.out hb)
    replace HCh := Lib.hid (Kd.C_below HCh.out hb)
    replace HL := Lib.hid (Kd.C_below HL.out hb)
    replace HR0 := Lib.hid (Kd.C_below HR0.out hb)
    replace HR1 := Lib.hid (Kd.C_below HR1.out hb)
    replace HR2 := Lib.hid (Kd.C_below HR2.out hb)
    replace HE0 := Lib.hid (Kd.C_below HE0.out hb)
    replace HE1 := Lib.hid (Kd.C_below HE1.out hb)
    replace HE2 := Lib.hid (Kd.C_below HE2.out hb)
    replace HS := Lib.hid (Kd.C_below HS.out hb)
    clear hW hb
    go_wp2_with fail
    refine (gprog_any o f g h _ 3 (Nat.le_refl 3) _ HS.out HT.out r e HG2.out).mono ?_
    rintro en wp ⟨W2, cw2, rfl, lw2, hW, hb⟩
    have HW2 := Lib.hid hW
    replace HB := Lib.hid (below_step HB.out hb)
    replace HT := Lib.hid (W.TabW.at HT.out hb)
    replace H0 := Lib.hid (Kd.C_below H0.out hb)
    replace H1 := Lib.hid (Kd.C_below H1.out hb)
    replace H2 := Lib.hid (Kd.C_below H2.out hb)
    replace HCf := Lib.hid (Kd.C_below HCf.out hb)
    replace HCg := Lib.hid (Kd.C_below HCg.out hb)
    replace HCh := Lib.hid (Kd.C_below HCh.out hb)
    replace HL := Lib.hid (Kd.C_below HL.out hb)
    replace HR0 := Lib.hid (Kd.C_below HR0.out hb)
    replace HR1 := Lib.hid (Kd.C_below HR1.out hb)
    replace HR2 := Lib.hid (Kd.C_below HR2.out hb)
    replace HE0 := Lib.hid (Kd.C_below HE0.out hb)
    replace HE1 := Lib.hid (Kd.C_below HE1.out hb)
    replace HE2 := Lib.hid (Kd.C_below HE2.out hb)
    replace HS := Lib.hid (Kd.C_below HS.out hb)
    replace HW1 := Lib.hid (Kd.C_below HW1.out hb)
    clear hW hb
    go_wp2_with fail
    refine (rosterlaw12_same.calls KG W2 cw2 r W1 cw1 r true _ HW2.out lw2 HW1.out lw1 (sameG_f r HFI.out KG (by decide))).mono ?_
    rintro en ws ⟨rfl, hb⟩
    replace HB := Lib.hid (below_step HB.out hb)
    replace HT := Lib.hid (W.TabW.at HT.out hb)
    replace H0 := Lib.hid (Kd.C_below H0.out hb)
    replace H1 := Lib.hid (Kd.C_below H1.out hb)
    replace H2 := Lib.hid (Kd.C_below H2.out hb)
    replace HCf := Lib.hid (Kd.C_below HCf.out hb)
    replace HCg := Lib.hid (Kd.C_below HCg.out hb)
    replace HCh := Lib.hid (Kd.C_below HCh.out hb)
    replace HL := Lib.hid (Kd.C_below HL.out hb)
    replace HR0 := Lib.hid (Kd.C_below HR0.out hb)
    replace HR1 := Lib.hid (Kd.C_below HR1.out hb)
    replace HR2 := Lib.hid (Kd.C_below HR2.out hb)
    replace HE0 := Lib.hid (Kd.C_below HE0.out hb)
    replace HE1 := Lib.hid (Kd.C_below HE1.out hb)
    replace HE2 := Lib.hid (Kd.C_below HE2.out hb)
    replace HS := Lib.hid (Kd.C_below HS.out hb)
    replace HW1 := Lib.hid (Kd.C_below HW1.out hb)
    replace HW2 := Lib.hid (Kd.C_below HW2.out hb)
    clear hb
    obtain ⟨P0, p0, xp, lp0, hP⟩ := own_at HL.out 0 f rfl
    have HP0 := Lib.hid hP
    clear hP
    go_wp2_with fail
    refine (spared_any KG (by decide) f R0 cr0 E0 ce0 P0 p0 _ lr0 HR0.out le0 HE0.out HP0.out lp0 OF.out.len (ok_any OF.out) (same_f f OF.out KG (by decide))).mono ?_
    rintro en wq0 ⟨rfl, hb⟩
    replace HB := Lib.hid (below_step HB.out hb)
    replace HT := Lib.hid (W.TabW.at HT.out hb)
    replace H0 := Lib.hid (Kd.C_below H0.out hb)
    replace H1 := Lib.hid (Kd.C_below H1.out hb)
    replace H2 := Lib.hid (Kd.C_below H2.out hb)
    replace HCf := Lib.hid (Kd.C_below HCf.out hb)
    replace HCg := Lib.hid (Kd.C_below HCg.out hb)
    replace HCh := Lib.hid (Kd.C_below HCh.out hb)
    replace HL := Lib.hid (Kd.C_below HL.out hb)
    replace HR0 := Lib.hid (Kd.C_below HR0.out hb)
    replace HR1 := Lib.hid (Kd.C_below HR1.out hb)
    replace HR2 := Lib.hid (Kd.C_below HR2.out hb)
    replace HE0 := Lib.hid (Kd.C_below HE0.out hb)
    replace HE1 := Lib.hid (Kd.C_below HE1.out hb)
    replace HE2 := Lib.hid (Kd.C_below HE2.out hb)
    replace HS := Lib.hid (Kd.C_below HS.out hb)
    replace HW1 := Lib.hid (Kd.C_below HW1.out hb)
    replace HW2 := Lib.hid (Kd.C_below HW2.out hb)
    clear hb xp
    obtain ⟨P1, p1, xp, lp1, hP⟩ := own_at HL.out 1 g rfl
    have HP1 := Lib.hid hP
    clear hP
    go_wp2_with fail
    refine (spared_any KG (by decide) g R1 cr1 E1 ce1 P1 p1 _ lr1 HR1.out le1 HE1.out HP1.out lp1 OG.out.len (ok_any OG.out) (same_f g OG.out KG (by decide))).mono ?_
    rintro en wq1 ⟨rfl, hb⟩
    replace HB := Lib.hid (below_step HB.out hb)
    replace HT := Lib.hid (W.TabW.at HT.out hb)
    replace H0 := Lib.hid (Kd.C_below H0.out hb)
    replace H1 := Lib.hid (Kd.C_below H1.out hb)
    replace H2 := Lib.hid (Kd.C_below H2.out hb)
    replace HCf := Lib.hid (Kd.C_below HCf.out hb)
    replace HCg := Lib.hid (Kd.C_below HCg.out hb)
    replace HCh := Lib.hid (Kd.C_below HCh.out hb)
    replace HL := Lib.hid (Kd.C_below HL.out hb)
    replace HR0 := Lib.hid (Kd.C_below HR0.out hb)
    replace HR1 := Lib.hid (Kd.C_below HR1.out hb)
    replace HR2 := Lib.hid (Kd.C_below HR2.out hb)
    replace HE0 := Lib.hid (Kd.C_below HE0.out hb)
    replace HE1 := Lib.hid (Kd.C_below HE1.out hb)
    replace HE2 := Lib.hid (Kd.C_below HE2.out hb)
    replace HS := Lib.hid (Kd.C_below HS.out hb)
    replace HW1 := Lib.hid (Kd.C_below HW1.out hb)
    replace HW2 := Lib.hid (Kd.C_below HW2.out hb)
    clear hb xp
    obtain ⟨P2, p2, xp, lp2, hP⟩ := own_at HL.out 2 h rfl
    have HP2 := Lib.hid hP
    clear hP
    go_wp2_with fail
    refine (spared_any KG (by decide) h R2 cr2 E2 ce2 P2 p2 _ lr2 HR2.out le2 HE2.out HP2.out lp2 OH.out.len (ok_any OH.out) (same_f h OH.out KG (by decide))).mono ?_
    rintro en wq2 ⟨rfl, hb⟩
    replace HB := Lib.hid (below_step HB.out hb)
    replace HT := Lib.hid (W.TabW.at HT.out hb)
    replace H0 := Lib.hid (Kd.C_below H0.out hb)
    replace H1 := Lib.hid (Kd.C_below H1.out hb)
    replace H2 := Lib.hid (Kd.C_below H2.out hb)
    replace HCf := Lib.hid (Kd.C_below HCf.out hb)
    replace HCg := Lib.hid (Kd.C_below HCg.out hb)
    replace HCh := Lib.hid (Kd.C_below HCh.out hb)
    replace HL := Lib.hid (Kd.C_below HL.out hb)
    replace HR0 := Lib.hid (Kd.C_below HR0.out hb)
    replace HR1 := Lib.hid (Kd.C_below HR1.out hb)
    replace HR2 := Lib.hid (Kd.C_below HR2.out hb)
    replace HE0 := Lib.hid (Kd.C_below HE0.out hb)
    replace HE1 := Lib.hid (Kd.C_below HE1.out hb)
    replace HE2 := Lib.hid (Kd.C_below HE2.out hb)
    replace HS := Lib.hid (Kd.C_below HS.out hb)
    replace HW1 := Lib.hid (Kd.C_below HW1.out hb)
    replace HW2 := Lib.hid (Kd.C_below HW2.out hb)
    clear hb xp
    go_wp2_with fail
    refine (filter_Group.calls KG 1 none 0 [] [headN 1] 0 _ (Kd.C_nil _ _) (Nat.le_refl _) (group_none KG (by decide))).mono ?_
    rintro en wz ⟨v, rfl, hN, hb⟩
    obtain ⟨Az, cz, rfl, hz1, hz2⟩ := Kd.S_reads hN
    replace HB := Lib.hid (below_step HB.out hb)
    clear hN hb hz2
    go_wp2
    go_ret
    exact ⟨rfl, HB.out⟩
end Go.Proofs.YtaimjacpenofpaaDoor.W
