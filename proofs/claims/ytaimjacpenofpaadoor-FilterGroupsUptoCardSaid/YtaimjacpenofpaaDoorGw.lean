/- Texts of this session in one: Ga, Gr, Gh, Gs -/
import Derived.Test.YtaimjacpenofpaaDoorGCx0
import Derived.Lib.Hide
import Derived.Test.YtaimjacpenofpaaDoorGCx1
import Derived.Deep.DeepMust
import Derived.Test.YtaimjacpenofpaaDoorGCx13
import Derived.Test.YtaimjacpenofpaaDoorGCx13
import Derived.Deep.QuietTactic
import Derived.BigQuiet
/-! ## Nodes with a mark behind their list (FilterGroups): kinds. -/
namespace Go.Proofs.YtaimjacpenofpaaDoor.W
open Go.RowKit Go.Proofs.YtaimjacpenofpaaDoorW.PrintWords Go.Proofs.YtaimjacpenofpaaDoorW.PrintLast Go.Proofs.YtaimjacpenofpaaDoor.GC
set_option linter.unusedVariables false
set_option linter.unusedSimpArgs false
abbrev SPG : ByteArray := ⟨#[115, 112, 97, 114, 101]⟩
/-- The list of a node, the mark behind it told where there is one. -/
def fullG (x : S38 × Bool) : List ByteArray := if x.2 then x.1.f4.f1 ++ [SPG] else x.1.f4.f1
theorem fullG_f (x : S38) : fullG (x, false) = x.f4.f1 := rfl
theorem fullG_t (x : S38) : fullG (x, true) = x.f4.f1 ++ [SPG] := rfl
abbrev cellsG (x : S38) (A : Option Addr) (c : Nat) : List Value := [.int .i64 x.f0, .int .i64 x.f1, .string x.f2, .string x.f3, .string x.f4.f0, .slice A x.f4.f1.length c, .string x.f4.f2, .string x.f5, .bool x.f6]
def kG : Kd (S38 × Bool) where
  sz := 9
  E := [9]
  K := fun w x cs => ∃ A c, cs = cellsG x.1 A c ∧ (fullG x).length ≤ c ∧ Kd.string.C w A (fullG x).length (fullG x)
  M := fun w base ok x cs => ∃ A c, cs = cellsG x.1 A c ∧ Kd.string.R 9 w base ok (.slice A (fullG x).length c) (fullG x)
  K_len := by rintro w x cs ⟨A, c, rfl, _⟩; rfl
  K_one := by
    rintro w x cs ⟨A, c, rfl, _⟩ u hu
    simp only [List.mem_cons, List.not_mem_nil, or_false] at hu
    rcases hu with rfl | rfl | rfl | rfl | rfl | rfl | rfl | rfl | rfl <;> rfl
  K_below := by rintro w w1 x cs hb ⟨A, c, rfl, hl, hr⟩; exact ⟨A, c, rfl, hl, Kd.C_below hr hb⟩
  K_of_M := by
    rintro w base ok x cs ⟨A, c, rfl, h⟩
    obtain ⟨_, hl, hr⟩ := Kd.R_reads' h
    exact ⟨A, c, rfl, hl, hr⟩
  M_mono := by rintro w base ok ok' x cs hok ⟨A, c, rfl, h⟩; exact ⟨A, c, rfl, Kd.R_mono h hok⟩
  M_bound := by rintro w base ok x cs ⟨A, c, rfl, h⟩; exact ⟨A, c, rfl, Kd.R_bound h⟩
  M_move := by rintro w w1 base ok x cs hm ⟨A, c, rfl, h⟩; exact ⟨A, c, rfl, Kd.R_move h hm⟩
  M_lower := by rintro w base base' ok x cs hb ⟨A, c, rfl, h⟩; exact ⟨A, c, rfl, Kd.R_lower h hb⟩
/-- A row of plain nodes. -/
theorem S_up {e : Nat} {w : World} {base : Nat} {ok : Nat → Prop} {v : Value} {xs : List S38} (h : Kd.S k38 e w base ok v xs) : Kd.S kG e w base ok v (xs.map fun x => (x, false)) := by
  obtain ⟨f, h0, inner, ho, hr⟩ := h
  rw [List.length_zipIdx] at ho
  have hl := hr.1
  rw [List.length_zipIdx] at hl
  refine ⟨f, h0, inner, by rw [List.length_zipIdx, List.length_map]; exact ho, by rw [List.length_zipIdx, List.length_map]; exact hl, fun j p hj => ?_⟩
  rw [List.getElem?_zipIdx, List.getElem?_map, Nat.zero_add] at hj
  obtain ⟨q, hq, rfl⟩ := Option.map_eq_some_iff.1 hj
  obtain ⟨y, hy, rfl⟩ := Option.map_eq_some_iff.1 hq
  have hm := hr.2 j (y, j) (Kd.zip_at hy)
  obtain ⟨v5, hc, g5⟩ := k38_openM (show (k38).M _ _ _ y _ from hm)
  obtain ⟨A, c, rfl⟩ := Kd.R_slice g5
  exact ⟨A, c, hc, g5⟩
theorem C_pre {α : Type} {d : Kd α} {w : World} {A : Option Addr} {n : Nat} {xs ys : List α} (h : Kd.C d w A n (xs ++ ys)) : Kd.C d w A xs.length xs := by
  obtain ⟨h1, h2, h3⟩ := h
  rw [List.length_append] at h1
  refine ⟨rfl, by omega, fun hn => ?_⟩
  obtain ⟨ad, e, hc⟩ := h3 (by omega)
  refine ⟨ad, e, fun j p hj => hc j p ?_⟩
  rw [List.getElem?_append_left (List.getElem?_eq_some_iff.1 hj).1]
  exact hj
theorem kG_plain {w : World} {x : S38 × Bool} {cs : List Value} (h : kG.K w x cs) : (k38).K w x.1 cs := by
  obtain ⟨A, c, rfl, hl, hC⟩ := h
  obtain ⟨y, b⟩ := x
  cases b with
  | false => exact k38_mk w y hl hC
  | true =>
    rw [fullG_t, List.length_append] at hl
    exact k38_mk w y (by omega) (C_pre hC)
/-- What stands in room is read as plain nodes. -/
theorem C_plain {w : World} {A : Option Addr} {n : Nat} {xs : List (S38 × Bool)} (h : Kd.C kG w A n xs) : Kd.C k38 w A n (xs.map Prod.fst) := by
  obtain ⟨h1, h2, h3⟩ := h
  refine ⟨by rw [List.length_map]; exact h1, h2, fun hn => ?_⟩
  obtain ⟨ad, e, hc⟩ := h3 hn
  refine ⟨ad, e, fun j p hj => ?_⟩
  rw [List.getElem?_map] at hj
  obtain ⟨q, hq, rfl⟩ := Option.map_eq_some_iff.1 hj
  obtain ⟨c, g1, g2, g3⟩ := hc j q hq
  exact ⟨c, g1, kG_plain g2, g3⟩
theorem fst_up (l : List S38) (b : Bool) : (l.map fun x => (x, b)).map Prod.fst = l := by rw [List.map_map]; exact List.map_id _
end Go.Proofs.YtaimjacpenofpaaDoor.W

/-! ## roomy (rosterlaw12), walked. -/
namespace Go.Proofs.YtaimjacpenofpaaDoor.W
open Go.RowKit Go.Proofs.YtaimjacpenofpaaDoorW.PrintWords Go.Proofs.YtaimjacpenofpaaDoorW.PrintLast Go.Proofs.YtaimjacpenofpaaDoor.GC
set_option linter.unusedVariables false
set_option linter.unusedSimpArgs false
set_option maxHeartbeats 2000000
theorem infoStrsG : (Tryd.prog.info? 34).map (·.size) = some 1 := by kernel_rfl
/-- The first i lists have their mark. -/
def mixG (l : List S38) (i : Nat) : List (S38 × Bool) := l.zipIdx.map fun p => (p.1, decide (p.2 < i))
theorem mixG_len (l : List S38) (i : Nat) : (mixG l i).length = l.length := by unfold mixG; rw [List.length_map, List.length_zipIdx]
theorem mixG_get (l : List S38) (i j : Nat) : (mixG l i)[j]? = l[j]?.map fun x => (x, decide (j < i)) := by
  unfold mixG
  rw [List.getElem?_map, List.getElem?_zipIdx, Nat.zero_add]
  cases l[j]? <;> rfl
theorem mixG_zero (l : List S38) : mixG l 0 = l.map fun x => (x, false) := by
  apply List.ext_getElem?
  intro j
  rw [mixG_get, List.getElem?_map]
  rfl
theorem mixG_all (l : List S38) : mixG l l.length = l.map fun x => (x, true) := by
  apply List.ext_getElem?
  intro j
  rw [mixG_get, List.getElem?_map]
  by_cases h : j < l.length
  · rw [decide_eq_true h]
  · rw [List.getElem?_eq_none (by omega)]; rfl
abbrev zG : S38 := ⟨0, 0, SPG, ⟨#[]⟩, ⟨⟨#[]⟩, [], ⟨#[]⟩⟩, ⟨#[]⟩, false⟩
theorem mixG_at (l : List S38) (i : Nat) (h : i < l.length) : (mixG l i).getD (i : Int).toNat (zG, false) = (l[i], false) := by
  rw [List.getD_eq_getElem?_getD, Int.toNat_natCast, mixG_get, List.getElem?_eq_getElem h]
  simp
theorem mixG_set (l : List S38) (i : Nat) (h : i < l.length) : (mixG l i).set i (l[i], true) = mixG l (i + 1) := by
  apply List.ext_getElem?
  intro j
  rw [mixG_get]
  by_cases hj : j = i
  · subst hj
    rw [List.getElem?_set_self (by rw [mixG_len]; exact h), List.getElem?_eq_getElem h]
    simp
  · rw [List.getElem?_set_ne (Ne.symm hj), mixG_get]
    cases l[j]? with
    | none => rfl
    | some x => simp only [Option.map_some]; congr 3; apply propext; omega
theorem roomy_any (K : Nat) (l : List S38) (A : Option Addr) (c : Nat) (w : World) (hr : Kd.C k38 w A l.length l) (hc : l.length ≤ c) (hcp : rosterlaw12_copied.f K l = some l) (hl : l.length ≤ 1048576) (hx : ∀ x ∈ l, x.f4.f1.length ≤ 1048576) :
    Calls Tryd.prog 5 #[.slice A l.length c] w fun e w' => ∃ A' c', e = .returned (.slice A' l.length c') ∧ l.length + 1 ≤ c' ∧ Kd.C kG w' A' (l.length + 1) (l.map (fun x => (x, true)) ++ [(zG, false)]) ∧ Below w.heap.size w w' := by
  have hu := Tryd.underlying38
  have HR := Lib.hid hr
  have HX := Lib.hid hx
  clear hx
  go_enter Tryd.func5, Tryd.ntmps5
  go_wp2_with fail
  refine (rosterlaw12_copied.calls K A c l l w hr hc hcp).mono ?_
  rintro e w1 ⟨v1, rfl, hS, hb1⟩
  have HS := Lib.hid (S_up hS)
  have HB1 := Lib.hid hb1
  clear hS hb1 hr
  go_wp2_with fail
  obtain ⟨A1, c1, rfl⟩ := Kd.S_slice HS.out
  have e1 : (l.map fun x => (x, false)).length = l.length := List.length_map _
  rw [e1]
  rw [e1] at HS
  go_loopw [4] (fun v wr => ∃ i : Nat, v = .int .i64 i ∧ i ≤ l.length ∧ Kd.S kG 38 wr w.heap.size (fun _ => True) (.slice A1 l.length c1) (mixG l i) ∧ Below w.heap.size w wr) (fun v _ => l.length - (intOf v).toNat)
  case atStart => exact ⟨0, rfl, Nat.zero_le _, by rw [mixG_zero]; exact HS.out, HB1.out⟩
  case round =>
    obtain ⟨i, rfl, hi, hS, hb⟩ := hrel
    by_cases hil : i < l.length
    · have p : (0 : Int) ≤ i := by omega
      have q : (i : Int) < l.length := by omega
      have hlm : 0 < (mixG l i).length := by rw [mixG_len]; omega
      obtain ⟨g, cp, he, hg0, hg1, cells, hcells⟩ := Kd.S_form hS hlm
      rw [mixG_len] at he
      cases he
      obtain ⟨oki, cs, hcs, hM, hcc, hoki, hH⟩ := Kd.S_lend hS (zG, false) (i : Int) p q
      have hgi : (mixG l i).getD (i : Int).toNat (zG, false) = (l[i], false) := mixG_at l i hil
      rw [hgi] at hM
      obtain ⟨Ai, ci, rfl, hRi⟩ := hM
      have hx5 : wr.cell? ⟨g, i * 9 + 5, none⟩ = some (.slice Ai l[i].f4.f1.length ci) := hcc 5 _ rfl
      obtain ⟨_, hle, hCi⟩ := Kd.R_reads' hRi
      obtain ⟨ad0, A05, c05, rfl, hz0, hz1, hz2, hz3, hz4, hx05, hz6, hz7, hz8, hl05, hz9⟩ := at_T38 HR.out (i : Int) p q
      have hrd : rd_T38 l (i : Int) = l[i] := by unfold rd_T38; rw [List.getD_eq_getElem?_getD, Int.toNat_natCast, List.getElem?_eq_getElem hil]; rfl
      rw [hrd, Int.toNat_natCast] at hx05
      rw [hrd] at hl05
      have HX05 := Lib.hid hx05
      have HH := Lib.hid hH
      have HB := Lib.hid hb
      have HRi := Lib.hid hRi
      have HG0 := Lib.hid hg0
      have HOK := Lib.hid hoki
      clear hz0 hz1 hz2 hz3 hz4 hz6 hz7 hz8 hz9 hH hb hRi hS hcc hcells hg0 hoki hCi hle hl05
      have hA : l[i].f4.f1.length ≤ 1048576 := HX.out l[i] (List.getElem_mem _)
      go_wp2_with (first | ((with_reducible refine gate_builtin (b := .append) (xs := #[.tmp 19, .tmp 20]) rfl ?_); at_builtin; go_must (refine Kd.R_append Kd.string (w0 := w) (W := wr) w.heap.size rfl (.tmp 19) (.tmp 20) 34 9 (.string ⟨#[]⟩) 16 rfl Tryd.underlying34 info9 rfl (by decide) (by decide) (.slice Ai l[i].f4.f1.length ci) l[i].f4.f1 SPG [.string SPG] (fun k => oki k ∨ wr.heap.size ≤ k) (fun _ => False) rfl rfl rfl (fun _ h => h.elim) (fun _ h => .inr h) (Kd.R_mono HRi.out (fun _ h => .inl h)) HB.out HB.out.size (by omega) ?_; intro v7 w7 hR7 hb7 hg7 hat7; have HH7 := Lib.hid (show Kd.H kG 38 w7 w.heap.size (fun _ => True) (.slice (some ⟨g, 0, none⟩) l.length c1) (mixG l i) (i : Int) (fun k => oki k ∨ True ∧ wr.heap.size ≤ k) (cellsG l[i] Ai ci) from Kd.H_grown (Kd.H_widen HH.out) hg7 (fun k hk => .inl (HRi.out.1 k hk))); obtain ⟨A7, c7, hv7⟩ := Kd.R_slice hR7; subst hv7; have HR7 := Lib.hid hR7; have HB7 := Lib.hid hb7; have hlt7 := (Kd.R_reads' hR7).2.1; rw [List.length_append, List.length_singleton] at hlt7; have hx07 := cellB_ hb7 HX05.out; have hx07' : w7.cell? ⟨(ad0.add (i * 9)).block, (ad0.add (i * 9)).off + 4 + 1, none⟩ = some (.slice A05 l[i].f4.f1.length c05) := hx07; have hq7 : ((l[i].f4.f1.length : Int)) ≤ c7 := (by omega); have hq8 : ((l[i].f4.f1.length : Int)) < (l[i].f4.f1.length : Int) + 1 := (by omega); clear hR7 hb7 hg7 hat7 HH hx5 hx05)) | ((with_reducible refine gate_store (t := 34) (p := 35) rfl ?_); go_must (refine Kd.H_store kG (w0 := w) w.heap.size rfl rfl 34 (.tmp 35) (.tmp 32) rfl 38 (i : Int) 5 (mixG l i) (l[i], true) (.slice A7 l[i].f4.f1.length c7) [.slice A7 l[i].f4.f1.length c7] (cellsG l[i] Ai ci) (fun _ => True) (fun k => oki k ∨ True ∧ wr.heap.size ≤ k) (fun k => oki k ∨ wr.heap.size ≤ k) rfl (by show _ = (i : Int).toNat * 9 + 5; rw [Int.toNat_natCast]) rfl rfl infoStrsG (by intro u hu; rw [List.mem_singleton.1 hu]; rfl) HH7.out p q (by show 5 + 1 ≤ 9; decide) ⟨A7, c7, rfl, HR7.out⟩ (fun _ h => h.elim .inl (fun h2 => .inr ⟨trivial, h2⟩)) HB7.out ?_; intro w8 hS8 hb8 hg8; rw [Int.toNat_natCast, mixG_set l i hil] at hS8; have HS8 := Lib.hid hS8; have HB8 := Lib.hid hb8; clear hS8 hb8 hg8 HH7 HR7 HB7 hx07 hx07')))
      go_roundw
      case rel => exact ⟨i + 1, by go_num, by omega, HS8.out, HB8.out⟩
      case measure => simp [intOf]; omega
    · obtain rfl : i = l.length := by omega
      rw [mixG_all] at hS
      have HS2 := Lib.hid hS
      have HB := Lib.hid hb
      clear hS hb
      go_wp2_with (first | ((with_reducible refine gate_builtin (b := .append) (xs := #[.tmp 36, .tmp 38]) rfl ?_); at_builtin; go_must (refine Kd.S_append kG (w0 := w) (W := wr) w.heap.size rfl (.tmp 36) (.tmp 38) 23 38 (.agg #[(.int .i64 0), (.int .i64 0), (.string ⟨#[]⟩), (.string ⟨#[]⟩), (.string ⟨#[]⟩), (.slice none 0 0), (.string ⟨#[]⟩), (.string ⟨#[]⟩), (.bool false)]) 128 rfl Tryd.underlying23 info38 rfl (by decide) (by decide) (.slice A1 l.length c1) (l.map fun x => (x, true)) (zG, false) (cellsG zG none 0) (fun _ => True) (fun _ => False) rfl rfl ⟨none, 0, rfl, Kd.R_nil _ _ _ _ _⟩ (fun _ h => h.elim) (fun _ h => trivial) (Kd.S_mono HS2.out (fun _ _ => ⟨trivial, fun h => h⟩)) HB.out HB.out.size (by rw [List.length_map]; omega) ?_; intro v7 w7 hS7 hb7 hg7 hat7; obtain ⟨A7, c7, hv7⟩ := Kd.S_slice hS7; subst hv7; have hq := (Kd.S_reads' hS7).2.1; have hC7 := (Kd.S_reads' hS7).2.2; rw [List.length_append, List.length_singleton, List.length_map] at hq hC7; have HB7 := Lib.hid hb7; have HC7 := Lib.hid hC7; have hq7 : (l.length : Int) ≤ c7 := (by omega); have hq8 : (l.length : Int) < (l.length : Int) + 1 := (by omega); rw [List.length_append, List.length_singleton, List.length_map]; clear hS7 hb7 hC7 hg7 hat7)))
      go_ret
      exact ⟨A7, c7, rfl, hq, HC7.out, HB7.out⟩
end Go.Proofs.YtaimjacpenofpaaDoor.W

/-! ## heads and spared (rosterlaw12), walked. -/
namespace Go.Proofs.YtaimjacpenofpaaDoor.W
open Go.RowKit Go.Proofs.YtaimjacpenofpaaDoorW.PrintWords Go.Proofs.YtaimjacpenofpaaDoorW.PrintLast Go.Proofs.YtaimjacpenofpaaDoor.GC
set_option linter.unusedVariables false
set_option linter.unusedSimpArgs false
set_option maxHeartbeats 2000000
/-- Nodes with room, seen as one list. -/
abbrev allG (l : List S38) : List (S38 × Bool) := l.map (fun x => (x, true)) ++ [(zG, false)]
def rowsOf (w : World) (ad : Addr) (sz n : Nat) : List (List Value) := (List.range n).map fun j => (List.range sz).map fun i => (w.cell? (ad.add (j * sz + i))).getD (.int .i64 0)
theorem rowsOf_get {α : Type} {d : Kd α} {w : World} {ad : Addr} {n : Nat} {xs : List α} (h : Kd.C d w (some ad) n xs) (j : Nat) (x : α) (hj : xs[j]? = some x) : ∃ cs, (rowsOf w ad d.sz n)[j]? = some cs ∧ d.K w x cs ∧ ∀ i u, cs[i]? = some u → w.cell? (ad.add (j * d.sz + i)) = some u := by
  obtain ⟨h1, h2, h3⟩ := h
  have hjl := (List.getElem?_eq_some_iff.1 hj).1
  obtain ⟨ad', e, hc⟩ := h3 (by omega)
  cases e
  obtain ⟨cs, g1, g2, g3⟩ := hc j x hj
  refine ⟨cs, ?_, g2, g3⟩
  unfold rowsOf
  rw [List.getElem?_map, List.getElem?_range (by omega)]
  show some _ = some cs
  congr 1
  apply List.ext_getElem?
  intro i
  rw [List.getElem?_map]
  by_cases hi : i < d.sz
  · rw [List.getElem?_range hi]
    have hi' : i < cs.length := by rw [g1]; exact hi
    have := g3 i _ (List.getElem?_eq_getElem hi')
    show some ((w.cell? (ad.add (j * d.sz + i))).getD (.int .i64 0)) = cs[i]?
    rw [this, List.getElem?_eq_getElem hi']
    rfl
  · rw [List.getElem?_eq_none (by rw [List.length_range]; omega), List.getElem?_eq_none (by omega)]
    rfl
theorem C_raw {α : Type} {d : Kd α} {w : World} {ad : Addr} {n : Nat} {xs : List α} (h : Kd.C d w (some ad) n xs) : Kd.C (Kd.raw d.sz) w (some ad) n (rowsOf w ad d.sz n) := by
  have hn := h.1
  refine ⟨by unfold rowsOf; rw [List.length_map, List.length_range], h.2.1, fun _ => ⟨ad, rfl, fun j p hj => ?_⟩⟩
  have hjl := (List.getElem?_eq_some_iff.1 hj).1
  unfold rowsOf at hjl
  rw [List.length_map, List.length_range] at hjl
  obtain ⟨cs, g1, g2, g3⟩ := rowsOf_get h j (xs[j]'(by omega)) (List.getElem?_eq_getElem _)
  rw [hj] at g1
  cases g1
  exact ⟨p, d.K_len g2, ⟨rfl, d.K_len g2, d.K_one g2⟩, g3⟩
/-- The cells copied elsewhere lead to what they led to. -/
theorem C_copied {α : Type} {d : Kd α} {w w1 : World} {ad : Addr} {A1 : Option Addr} {n : Nat} {xs : List α} (h : Kd.C d w (some ad) n xs) (hb : Below w.heap.size w w1) (h1 : Kd.C (Kd.raw d.sz) w1 A1 n (rowsOf w ad d.sz n)) : Kd.C d w1 A1 n xs := by
  refine ⟨h.1, h.2.1, fun hn => ?_⟩
  obtain ⟨ad1, e, hc⟩ := h1.2.2 hn
  refine ⟨ad1, e, fun j p hj => ?_⟩
  obtain ⟨cs, g1, g2, g3⟩ := rowsOf_get h j p hj
  obtain ⟨cs', f1, f2, f3⟩ := hc j cs g1
  obtain rfl : cs' = cs := f2.1
  exact ⟨cs', d.K_len g2, d.K_below hb g2, f3⟩
theorem heads_any (l : List S38) (A : Option Addr) (c : Nat) (w : World) (hC : Kd.C kG w A (l.length + 1) (allG l)) (hc : l.length + 1 ≤ c) (hl : l.length ≤ 1048576) :
    Calls Tryd.prog 6 #[.slice A l.length c] w fun e w' => ∃ A' c', e = .returned (.slice A' (l.length + 1) c') ∧ l.length + 1 ≤ c' ∧ Kd.C kG w' A' (l.length + 1) (allG l) ∧ Below w.heap.size w w' := by
  have hu := Tryd.underlying38
  have q0 : wrap64 ((l.length : Int) + 1) = (l.length : Int) + 1 := by unfold wrap64; omega
  have q1 : (0 : Int) ≤ (l.length : Int) + 1 := by omega
  have q2 : (l.length : Int) + 1 ≤ c := by omega
  obtain ⟨ad, rfl, _⟩ := hC.2.2 (by omega)
  have HC := Lib.hid hC
  clear hC
  go_enter Tryd.func6, Tryd.ntmps6
  go_wp2_with (first | ((with_reducible refine gate_builtin (b := .append) (xs := #[.tmp 4, .tmp 9]) rfl ?_); at_builtin; go_must (refine Kd.R_append_rows (Kd.raw 9) (w0 := w) w.heap.size rfl (.tmp 4) (.tmp 9) 23 38 (.agg #[(.int .i64 0), (.int .i64 0), (.string ⟨#[]⟩), (.string ⟨#[]⟩), (.string ⟨#[]⟩), (.slice none 0 0), (.string ⟨#[]⟩), (.string ⟨#[]⟩), (.bool false)]) 128 rfl Tryd.underlying23 info38 rfl (by decide) (by omega) (.slice none 0 0) [] (rowsOf w ad 9 (l.length + 1)) _ _ _ (fun _ => True) (fun _ => False) rfl rfl (Kd.R_nil _ _ _ _ _) (C_raw HC.out) (fun _ _ h => h) (fun _ h => h.elim) (fun _ _ => trivial) (Below.refl _ _) (Nat.le_refl _) (by rw [List.length_nil]; omega) ?_; intro v1 w1 hR1 hb1 hg1 hat1; rw [List.nil_append] at hR1; obtain ⟨A1, c1, hv1⟩ := Kd.R_slice hR1; subst hv1; have hC1 := Kd.R_reads' hR1; rw [show (rowsOf w ad 9 (l.length + 1)).length = l.length + 1 by unfold rowsOf; rw [List.length_map, List.length_range]] at hC1 ⊢; have HC1 := Lib.hid (C_copied HC.out hb1 hC1.2.2); have hq1 := hC1.2.1; have HB1 := Lib.hid hb1; clear hR1 hb1 hg1 hat1 hC1)))
  go_ret
  exact ⟨A1, c1, rfl, hq1, HC1.out, HB1.out⟩
end Go.Proofs.YtaimjacpenofpaaDoor.W

/-! ## spared (rosterlaw12), walked. -/
namespace Go.Proofs.YtaimjacpenofpaaDoor.W
open Go.RowKit Go.Proofs.YtaimjacpenofpaaDoorW.PrintWords Go.Proofs.YtaimjacpenofpaaDoorW.PrintLast Go.Proofs.YtaimjacpenofpaaDoor.GC
set_option linter.unusedVariables false
set_option linter.unusedSimpArgs false
set_option maxHeartbeats 2000000
/-! #### spared -/
theorem wrG (i : Nat) (h : i ≤ 2097152) : wrap64 ((i : Int) + 1) = ((i + 1 : Nat) : Int) := by unfold wrap64; omega
theorem sameT_l (l : List ByteArray) (hl : l.length ≤ 1048576) : ∀ (j i k : Nat), i + j = l.length → rosterlaw12_sameTexts.l0 (k + j + 1) l l (i : Int) = some true := by
  intro j
  induction j with
  | zero =>
    intro i k hi
    rw [rosterlaw12_sameTexts.l0, if_neg (by omega)]
  | succ j ih =>
    intro i k hi
    rw [show k + (j + 1) + 1 = (k + j + 1) + 1 by omega, rosterlaw12_sameTexts.l0, if_pos (by omega), if_pos (by omega), if_pos (by omega), if_pos rfl, wrG i (by omega)]
    exact ih (i + 1) k (by omega)
theorem sameT_f (l : List ByteArray) (hl : l.length ≤ 1048576) (k : Nat) (hk : 1048577 ≤ k) : rosterlaw12_sameTexts.f k l l = some true := by
  unfold rosterlaw12_sameTexts.f
  rw [if_pos rfl]
  obtain ⟨q, rfl⟩ : ∃ q, k = q + l.length + 1 := ⟨k - l.length - 1, by omega⟩
  exact sameT_l l hl l.length 0 q (by omega)
theorem allG_at {w : World} {ad : Addr} {l : List S38} (h : Kd.C kG w (some ad) (l.length + 1) (allG l)) (i : Nat) (hi : i < l.length) :
    ∃ ad' c, w.cell? ⟨(ad.add (i * 9)).block, (ad.add (i * 9)).off + 4 + 1, none⟩ = some (.slice (some ad') l[i].f4.f1.length c) ∧ l[i].f4.f1.length + 1 ≤ c ∧ Kd.string.C w (some ad') (l[i].f4.f1.length + 1) (l[i].f4.f1 ++ [SPG]) := by
  obtain ⟨ad', cs, e, _, hK, hc⟩ := Kd.C_get h (zG, false) (i : Int) (by omega) (by omega)
  cases e
  rw [show (allG l).getD (i : Int).toNat (zG, false) = (l[i], true) by simp [List.getElem?_append_left, hi]] at hK
  obtain ⟨A', c', rfl, hl, hC⟩ := hK
  rw [fullG_t, List.length_append, List.length_singleton] at hl hC
  obtain ⟨ad', rfl, _⟩ := hC.2.2 (by omega)
  refine ⟨ad', c', ?_, hl, hC⟩
  have := hc 5 _ rfl
  have e2 := add_field ad ((i : Int).toNat * 9) 5 (by omega)
  rw [Int.toNat_natCast] at e2
  rw [Int.toNat_natCast] at this
  show w.cell? ⟨(ad.add (i * 9)).block, (ad.add (i * 9)).off + 5, none⟩ = _
  rw [← add_field _ _ 5 (by omega)]
  exact this
theorem allG_last {w : World} {ad : Addr} {l : List S38} (h : Kd.C kG w (some ad) (l.length + 1) (allG l)) : w.cell? ⟨(ad.add (l.length * 9)).block, (ad.add (l.length * 9)).off + 2, none⟩ = some (.string SPG) := by
  obtain ⟨ad', cs, e, _, hK, hc⟩ := Kd.C_get h (zG, false) (l.length : Int) (by omega) (by omega)
  cases e
  rw [show (allG l).getD (l.length : Int).toNat (zG, false) = (zG, false) by simp] at hK
  obtain ⟨A', c', rfl, hl, hC⟩ := hK
  have := hc 2 _ rfl
  rw [Int.toNat_natCast] at this
  rw [← add_field _ _ 2 (by omega)]
  exact this
theorem e_all (n c : Nat) (h1 : n ≤ 1048576) (h2 : n + 1 ≤ c) : wrap64 ((n : Int) + 1) = (n : Int) + 1 ∧ (0 : Int) ≤ (n : Int) + 1 ∧ (n : Int) + 1 ≤ c ∧ (n : Int) < (n : Int) + 1 ∧ (n : Int) ≤ c := ⟨by unfold wrap64; omega, by omega, by omega, by omega, by omega⟩
theorem spared_any (K : Nat) (hK : 1048577 ≤ K) (l : List S38) (A : Option Addr) (c : Nat) (A1 : Option Addr) (c1 : Nat) (A2 : Option Addr) (c2 : Nat) (w : World) (hl : l.length + 1 ≤ c) (hC : Kd.C kG w A (l.length + 1) (allG l)) (hl1 : l.length + 1 ≤ c1) (hC1 : Kd.C kG w A1 (l.length + 1) (allG l))
    (hr2 : Kd.C k38 w A2 l.length l) (hc2 : l.length ≤ c2) (hn : l.length ≤ 1048576) (hx : ∀ a ∈ l, a.f4.f1.length ≤ 1048576) (hs : rosterlaw12_same.f K l l = some true) :
    Calls Tryd.prog 10 #[.slice A l.length c, .slice A1 (l.length + 1) c1, .slice A2 l.length c2] w fun en w' => en = .returned (.bool true) ∧ Below w.heap.size w w' := by
  have hu := Tryd.underlying38
  obtain ⟨ad, rfl, hz⟩ := hC.2.2 (by omega)
  clear hz
  obtain ⟨ad1, rfl, hz⟩ := hC1.2.2 (by omega)
  clear hz
  have q0 : wrap64 ((l.length : Int) + 1) = (l.length : Int) + 1 := by unfold wrap64; omega
  have q1 : (0 : Int) ≤ (l.length : Int) + 1 := by omega
  have q2 : (l.length : Int) + 1 ≤ c := by omega
  have q3 : (l.length : Int) < (l.length : Int) + 1 := by omega
  have q4 : (0 : Int) ≤ (l.length : Int) := by omega
  have HC := Lib.hid hC
  have HC1 := Lib.hid hC1
  have HR2 := Lib.hid hr2
  have HX := Lib.hid hx
  have hCr : Kd.C k38 w (some ad) l.length l := by
    have := C_pre hC
    rw [List.length_map] at this
    have h2 := C_plain this
    rw [fst_up] at h2
    exact h2
  go_enter Tryd.func10, Tryd.ntmps10
  go_wp2_with fail
  refine (rosterlaw12_same.calls K (some ad) c l A2 c2 l true w hCr (by omega) hr2 hc2 hs).mono ?_
  rintro en w1 ⟨rfl, hb1⟩
  have x0 := allG_last (Kd.C_below HC.out hb1)
  have x1 := allG_last (Kd.C_below HC1.out hb1)
  have HB1 := Lib.hid hb1
  clear hC hC1 hr2 hCr hs hb1 hx
  go_wp2_with fail
  go_loopw [8] (fun v wr => ∃ i : Nat, v = .int .i64 i ∧ i ≤ l.length ∧ Below w.heap.size w wr) (fun v _ => l.length - (intOf v).toNat)
  case atStart => exact ⟨0, rfl, Nat.zero_le _, HB1.out⟩
  case round =>
    obtain ⟨i, rfl, hi, hb⟩ := hrel
    by_cases hil : i < l.length
    · have p : (0 : Int) ≤ i := by omega
      have q : (i : Int) < l.length := by omega
      have q' : (i : Int) < (l.length : Int) + 1 := by omega
      obtain ⟨ad', c', x5, hl', hC'⟩ := allG_at (Kd.C_below HC1.out hb) i hil
      have hA := HX.out l[i] (List.getElem_mem _)
      obtain ⟨ad2, A05, c05, rfl, hz0, hz1, hz2, hz3, hz4, hx05, hz6, hz7, hz8, hl05, hz9⟩ := at_T38 (Kd.C_below HR2.out hb) (i : Int) p q
      have hrd : rd_T38 l (i : Int) = l[i] := by unfold rd_T38; rw [List.getD_eq_getElem?_getD, Int.toNat_natCast, List.getElem?_eq_getElem hil]; rfl
      rw [hrd, Int.toNat_natCast] at hx05
      rw [hrd] at hl05 hz9
      have x6 : wr.cell? ⟨(ad2.add (i * 9)).block, (ad2.add (i * 9)).off + 4 + 1, none⟩ = some (.slice A05 l[i].f4.f1.length c05) := hx05
      obtain ⟨ad3, cs, e3, _, hK3, hc3⟩ := Kd.C_get hC' SPG (l[i].f4.f1.length : Int) (by omega) (by omega)
      cases e3
      rw [show (l[i].f4.f1 ++ [SPG]).getD (l[i].f4.f1.length : Int).toNat SPG = SPG by simp] at hK3
      have hK' : cs = [.string SPG] := hK3
      subst hK'
      have x7 : wr.cell? (ad'.add l[i].f4.f1.length) = some (.string ⟨#[115, 112, 97, 114, 101]⟩) := by
        have := hc3 0 _ rfl
        rw [show (l[i].f4.f1.length : Int).toNat * Kd.string.sz + 0 = l[i].f4.f1.length by show (l[i].f4.f1.length : Int).toNat * 1 + 0 = _; omega] at this
        exact this
      obtain ⟨e0, e1, e2, e3, e4⟩ := e_all _ _ hA hl'
      have HB := Lib.hid hb
      have HCi := Lib.hid hC'
      have HRi := Lib.hid hz9
      clear hz0 hz1 hz2 hz3 hz4 hz6 hz7 hz8 hz9 hx05 hC' hb hc3 hK3
      have HL := Lib.hid hl'
      have HL5 := Lib.hid hl05
      have HA := Lib.hid hA
      clear hl' hl05 hA q0 q1 q2 q3 q4 hrd
      go_wp2_with fail
      iterate 9 (try (first | go_quiet ((go_at_call 19; (with_reducible refine (rosterlaw12_sameTexts.calls K (some ad') c' l[i].f4.f1 A05 c05 l[i].f4.f1 true _ ?s1 ?s2 ?s3 ?s4 (sameT_f _ HA.out K hK)).mono ?_); (case s1 => repeat (first | exact C_pre HCi.out | (with_reducible refine Kd.C_alloc ?_ _) | (with_reducible refine Kd.C_drewN ?_ _) | (with_reducible refine Kd.C_drew ?_))); (case s2 => exact Nat.le_of_succ_le HL.out); (case s3 => repeat (first | exact HRi.out | (with_reducible refine Kd.C_alloc ?_ _) | (with_reducible refine Kd.C_drewN ?_ _) | (with_reducible refine Kd.C_drew ?_))); (case s4 => exact HL5.out); rintro e w' ⟨rfl, ⟨nd, rfl⟩⟩; (try first | exact ⟨rfl, _, World.drewN_drewN _ _ _⟩ | exact ⟨rfl, _, Eq.trans (World.drewN_drewN _ _ _) (congrArg (World.drewN _) (Nat.add_assoc _ _ _))⟩))) | go_wp2_with (first | (go_at_call 19; (with_reducible refine (rosterlaw12_sameTexts.calls K (some ad') c' l[i].f4.f1 A05 c05 l[i].f4.f1 true _ ?s1 ?s2 ?s3 ?s4 (sameT_f _ HA.out K hK)).mono ?_); (case s1 => repeat (first | exact C_pre HCi.out | (with_reducible refine Kd.C_alloc ?_ _) | (with_reducible refine Kd.C_drewN ?_ _) | (with_reducible refine Kd.C_drew ?_))); (case s2 => exact Nat.le_of_succ_le HL.out); (case s3 => repeat (first | exact HRi.out | (with_reducible refine Kd.C_alloc ?_ _) | (with_reducible refine Kd.C_drewN ?_ _) | (with_reducible refine Kd.C_drew ?_))); (case s4 => exact HL5.out); rintro e w' ⟨rfl, ⟨nd, rfl⟩⟩; (try first | exact ⟨rfl, _, World.drewN_drewN _ _ _⟩ | exact ⟨rfl, _, Eq.trans (World.drewN_drewN _ _ _) (congrArg (World.drewN _) (Nat.add_assoc _ _ _))⟩)))))
      go_roundw
      case rel => exact ⟨i + 1, by go_num, by omega, by repeat (first | (with_reducible first | exact HB.out | apply below_alloc | apply pw_below_drewN | apply below_drew1) | exact HB.out)⟩
      case measure => simp [intOf]; omega
    · obtain rfl : i = l.length := by omega
      have HB := Lib.hid hb
      clear hb
      go_wp2
      go_ret
      exact ⟨rfl, HB.out⟩
end Go.Proofs.YtaimjacpenofpaaDoor.W
