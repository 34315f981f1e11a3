/- Texts of this claim in one: BEl, Tr, Wk, We -/
import Derived.Test.YtogjljpncdmlkaaDoorB3
import Derived.Test.YtogjljpncdmlkaaDoorB9
import Derived.Test.YtogjljpncdmlkaaDoorB7
import Derived.Deep.AppendLies
import Derived.Deep.RegionLaw
import Derived.Test.YtogjljpncdmlkaaDoorB1
section
namespace Go.Proofs.YtogjljpncdmlkaaDoor.W
open Go.RowKit
set_option linter.unusedVariables false
set_option linter.unusedSimpArgs false
theorem infoFound : (Tryd.prog.info? 105).map (fun i => (i.zero, i.size, i.bytes)) = some (some (.agg #[.int .i64 0, .int .i64 0, .int .i64 0, .bool false, .int .i64 0, .int .i64 0, .int .i64 0]), 7, 56) := by kernel_rfl
def Reads (s : ByteArray) (m : Nat) : Prop :=
  ∀ (base g : Nat) (l : List Fnd) (p e d : Int) (w : World), 0 ≤ p → e ≤ (s.size : Int) → Scan base g s l w → base ≤ w.heap.size → base ≤ g → (l.length : Int) + (e - p) ≤ 4194304 → 2 * (e - p) + 1 ≤ m → 1 ≤ m → 0 ≤ d → d ≤ 100 →
    Calls Tryd.prog 57 #[.pointer (some ⟨g, 0, none⟩), .int .i64 p, .int .i64 e, .int .i64 d] w fun en w' => ElemEnd (elemF s m p e d) base g s l w en w'
theorem element_no (base g : Nat) (s : ByteArray) (l : List Fnd) (p e d : Int) (w : World) (h0 : 0 ≤ p) (he : e ≤ (s.size : Int)) (hs : s.size ≤ 4194304)
    (hS : Scan base g s l w) (hb : base ≤ w.heap.size) {c q : Int} (hr : bnd s p e d = .error (c, q)) (m : Nat) :
    Calls Tryd.prog 57 #[.pointer (some ⟨g, 0, none⟩), .int .i64 p, .int .i64 e, .int .i64 d] w fun en w' => ElemEnd (elemF s (m + 1) p e d) base g s l w en w' := by
  have HF : Hid (elemF s (m + 1) p e d = ([], .error (c, q))) := by unfold Hid; rw [elemF, hr]
  obtain ⟨v, hA, hO⟩ := hS
  have hg := hA.lt
  have H := Lib.hid hr
  clear hr
  go_enter Tryd.func57, Tryd.ntmps57
  go_wp2_with fail
  refine (bound_err g s p e d _ h0 he q2_ ?_ hg H.out).mono ?_
  · exact (hA.cell 0).trans rfl
  rintro en w1 ⟨rfl, hb1⟩
  refine ⟨rfl, ?_⟩
  rw [HF.out]
  exact ⟨rfl, ⟨v, hA.below hb1 hg, by simpa using own_below hO hb1 (Nat.le_refl _)⟩, hb1.mono hb, Keeps.of_below hb1⟩
set_option maxRecDepth 100000 in
set_option maxHeartbeats 1000000 in
theorem element_yes (base g : Nat) (s : ByteArray) (l : List Fnd) (p e d : Int) (w : World) (h0 : 0 ≤ p) (he : e ≤ (s.size : Int)) (hs : s.size ≤ 4194304)
    (hS : Scan base g s l w) (hb : base ≤ w.heap.size) (hgb : base ≤ g) (hl : (l.length : Int) + (e - p) ≤ 4194304) (hd0 : 0 ≤ d) (hd1 : d ≤ 100) {h : Hd} (hr : bnd s p e d = .ok h) (m : Nat) (hm : 2 * (e - p) ≤ m) (ih : ∀ k, k < m → Reads s k) :
    Calls Tryd.prog 57 #[.pointer (some ⟨g, 0, none⟩), .int .i64 p, .int .i64 e, .int .i64 d] w fun en w' => ElemEnd (elemF s (m + 1) p e d) base g s l w en w' := by
  obtain ⟨hb1, hb2⟩ := bnd_ok hr
  obtain ⟨hd64, -, k3, k4, k5, k6, -⟩ := hdr_ok hb1
  clear hb1
  obtain ⟨v, hA, hO⟩ := hS
  have hg := hA.lt
  obtain ⟨i0, hi, hz0, hz1, hz2⟩ := info_parts infoFound
  have H := Lib.hid hr
  have IH := Lib.hid ih
  clear hr ih
  go_enter Tryd.func57, Tryd.ntmps57
  go_wp2_with fail
  refine (bound_ok g s p e d _ h0 he q2_ ?_ hg H.out).mono ?_
  · exact (hA.cell 0).trans rfl
  rintro en w1 ⟨rfl, hb1⟩
  have A1 := hA.below hb1 hg
  go_wp2_with fail
  have z1 : w.heap.size ≤ w1.heap.size := hb1.size
  have K1 := Keeps.of_below (g := g) hb1
  have O1 := own_below hO hb1 (Nat.le_refl _)
  refine gen1 (G := fun W => Code.wp _ _ _ _ W) fun W hB hz k1 => ?_
  have A2 := A1.below hB A1.lt
  have O2 := own_below O1 hB (Nat.le_refl _)
  have K2 := K1.trans (Keeps.of_below (g := g) hB)
  have B2 : Below w.heap.size w W := hb1.trans (hB.mono z1)
  have c1 := (A2.cell 1).trans rfl
  have c0 : ∀ i, W.cell? ⟨w1.heap.size, i, none⟩ = _ := k1.cell
  clear A1 O1 K1 hb1
  have hne : w1.heap.size ≠ g := by have := hg; omega
  have hne2 : g < W.heap.size := A2.lt
  have hlt : w1.heap.size < W.heap.size := by omega
  have hnw : ∀ cs t, At (W.alloc (.cells cs t)) W.heap.size t cs := fun cs t => At.new W t cs
  clear hz hA hO
  go_region_law (refine step_append_lies _ rfl (.tmp 21) (.tmp 26) 100 rfl base 105 i0 _ 7 56 Tryd.underlying100 hi hz0 hz1 hz2 rfl q14_ v l.length (fndRow l) (by simp [Act.eval, Act.put]) (by exact O2.alloc _) ⟨W.heap.size, 0, none⟩ 1 1 (fndCells ⟨p, d, h⟩) (by simp [Act.eval, Act.put]) rfl (by exact World.news_of_block (hnw _ _)) (by simp [fndCells, Value.oneCell']) q14_ (by unfold maxLen; omega) q2_ q22_ (W.heap.size + 1) q21_ ?_; intro gr cp w3 hO3 hgr hor hlt3; have A3 := At.lit A2 O2 hgr q14_; have s1 := (A3.cell 1).trans rfl; have s2 := A3.free 1)
  all_goals
    have A4 := A3.set 1 (Value.slice (some ⟨gr, 0, none⟩) (l.length + 1) cp)
    have O4 : (w3.setCell ⟨g, 1, none⟩ (.slice (some ⟨gr, 0, none⟩) (l.length + 1) cp)).ownsRow base 105 7 (.slice (some ⟨gr, 0, none⟩) (l.length + 1) cp) (l ++ [(⟨p, d, h⟩ : Fnd)]).length (fndRow (l ++ [(⟨p, d, h⟩ : Fnd)])) := by
      rw [fndRow_snoc, List.length_append]
      exact own_set hO3 A3 q14_ _
    have k5 := (k1.lit O2 hgr q14_).far (p := ⟨g, 1, none⟩) hne (Value.slice (some ⟨gr, 0, none⟩) (l.length + 1) cp)
    have B4 : Below base w (w3.setCell ⟨g, 1, none⟩ (.slice (some ⟨gr, 0, none⟩) (l.length + 1) cp)) :=
      ((((B2.mono hb).alloc q2_ _).drew).grown hgr q22_ (own_base O2)).setCell hgb _
    have K4 : Keeps g w (w3.setCell ⟨g, 1, none⟩ (.slice (some ⟨gr, 0, none⟩) (l.length + 1) cp)) := ((K2.alloc _).drew.grown (O2.alloc _).drew hgr).setScan 1 _
    clear s1 s2 A3 hO3 hgr hor hlt3 c1 c0 A2 O2 K2 B2 hB k1 hnw
    generalize w3.setCell ⟨g, 1, none⟩ (.slice (some ⟨gr, 0, none⟩) (l.length + 1) cp) = W4 at A4 O4 k5 B4 K4 ⊢
    have cH : ∀ i, W4.cell? ⟨w1.heap.size, i, none⟩ = _ := k5.cell
    have S4 : Scan base g s (l ++ [⟨p, d, h⟩]) W4 := ⟨_, A4, O4⟩
    clear A4 O4 k5
    cases hmd : h.made with
    | false =>
      have HF : Hid (elemF s (m + 1) p e d = ([⟨p, d, h⟩], .ok (p + h.size + h.len))) := by unfold Hid; rw [elemF, H.out]; simp only [hmd]; rfl
      go_wp2
      go_ret
      rw [HF.out]
      exact ⟨rfl, S4, B4, K4⟩
    | true =>
      have HF : Hid (elemF s (m + 1) p e d = (⟨p, d, h⟩ :: (elemsF s m (p + h.size) (p + h.size + h.len) (d + 1)).1, (elemsF s m (p + h.size) (p + h.size + h.len) (d + 1)).2)) := by
        unfold Hid; rw [elemF, H.out]; simp only [hmd]; rfl
      have hst : 2 * ((p + h.size + h.len) - (p + h.size)) + 2 ≤ (m : Int) := by omega
      go_wp2
      go_loopw [10] (fun a wr => ∃ (x : Int) (ls : List Fnd) (k : Nat), a = .int .i64 x ∧ p + h.size ≤ x ∧ x ≤ p + h.size + h.len ∧ (ls.length : Int) ≤ x - (p + h.size) ∧ 2 * ((p + h.size + h.len) - x) + 2 ≤ (k : Int) ∧ k ≤ m ∧
          Hid (elemsF s m (p + h.size) (p + h.size + h.len) (d + 1) = (ls ++ (elemsF s k x (p + h.size + h.len) (d + 1)).1, (elemsF s k x (p + h.size + h.len) (d + 1)).2)) ∧
          Scan base g s ((l ++ [⟨p, d, h⟩]) ++ ls) wr ∧ Below base w wr ∧ Keeps g w wr)
        (fun a _ => ((p + h.size + h.len) - intOf a).toNat)
      case atStart => exact ⟨p + h.size, [], m, rfl, q2_, q2_, q21_, hst, Nat.le_refl _, by simp [Hid], by simpa using S4, B4, K4⟩
      case round =>
        obtain ⟨x, ls, k, rfl, q1, q2, q3, q4, q5, q6, q7, q8, q9⟩ := hrel
        clear cH S4 B4 K4 hst
        obtain ⟨k, rfl⟩ : ∃ j, k = j + 1 := ⟨k - 1, q2_⟩
        by_cases hx : x < p + h.size + h.len
        · have Q7 := q7
          obtain ⟨v7, a7, o7⟩ := q7
          have hg7 := a7.lt
          clear a7 o7
          have hst := elemsF_step (s := s) (k := k) (d := d + 1) hx
          have HB : Hid (base ≤ wr.heap.size) := Nat.le_trans hb q8.size
          cases hre : (elemF s k x (p + h.size + h.len) (d + 1)).2 with
          | error y =>
            obtain ⟨c, q⟩ := y
            rw [hre] at hst
            have HS := Lib.hid hst
            have HR := Lib.hid hre
            clear hst hre
            go_wp2_with fail
            refine (IH.out k q2_ base g _ x (p + h.size + h.len) (d + 1) wr q2_ q2_ Q7 HB.out hgb (by simp only [List.length_append, List.length_cons, List.length_nil]; omega) q2_ q2_ q2_ q2_).mono ?_
            intro en w5 hE
            obtain ⟨e1, e2, e3, e4⟩ := hE
            rw [HR.out] at e1
            subst e1
            refine ⟨rfl, ?_⟩
            rw [HF.out, q6.out, HS.out]
            exact ⟨rfl, by simpa using e2, q8.trans e3, q9.trans e4⟩
          | ok q =>
            rw [hre] at hst
            have hok := (elem_ok s k).1 x _ _ q hre
            have HS := Lib.hid hst
            have HR := Lib.hid hre
            clear hst hre
            go_wp2_with fail
            refine (IH.out k q2_ base g _ x (p + h.size + h.len) (d + 1) wr q2_ q2_ Q7 HB.out hgb (by simp only [List.length_append, List.length_cons, List.length_nil]; omega) q2_ q2_ q2_ q2_).mono ?_
            intro en w5 hE
            obtain ⟨e1, e2, e3, e4⟩ := hE
            rw [HR.out] at e1
            subst e1
            go_wp2_with fail
            go_roundw
            case rel =>
              refine ⟨q, ls ++ (elemF s k x (p + h.size + h.len) (d + 1)).1, k, rfl, q2_, q2_, by rw [List.length_append]; omega, q2_, q2_, ?_, by simpa using e2, q8.trans e3, q9.trans e4⟩
              unfold Hid
              rw [q6.out, HS.out, List.append_assoc]
            case measure => simp [intOf]; omega
        · have hst := elemsF_stop (s := s) (k := k) (d := d + 1) hx
          have HS := Lib.hid hst
          clear hst
          go_wp2
          go_ret
          rw [HF.out, q6.out, HS.out]
          exact ⟨rfl, by simpa using q7, q8, q9⟩
theorem element_reads (s : ByteArray) (hs : s.size ≤ 4194304) : ∀ m, Reads s m := by
  intro m
  induction m using Nat.strongRecOn with
  | _ m ih =>
    intro base g l p e d w h0 he hS hb hgb hl hm h1 hd0 hd1
    obtain ⟨k, rfl⟩ : ∃ j, m = j + 1 := ⟨m - 1, q2_⟩
    cases hr : bnd s p e d with
    | error x => obtain ⟨c, q⟩ := x; exact element_no base g s l p e d w h0 he hs hS hb hr k
    | ok h => exact element_yes base g s l p e d w h0 he hs hS hb hgb hl hd0 hd1 hr k q2_ (fun j hj => ih j q2_)
end Go.Proofs.YtogjljpncdmlkaaDoor.W
end
section
namespace Go.Proofs.YtogjljpncdmlkaaDoor.W
open Go.RowKit Go.Proofs.YtogjljpncdmlkaaDoorW.PrintWords Go.Proofs.YtogjljpncdmlkaaDoorW.PrintLast
set_option linter.unusedVariables false
set_option linter.unusedSimpArgs false
def treeErr (s : ByteArray) : Except (Int × Int) Int → Option (Int × Int)
  | .error x => some x
  | .ok q => if q < (s.size : Int) then some (27, q) else none
theorem treeR_eq (s : ByteArray) (l : List Fnd) (r : Except (Int × Int) Int) : treeR s (l, r) = match treeErr s r with
    | some x => ([], x.1, x.2)
    | none => (l.map (nodeOf s), 0, 0) := by
  cases r with
  | error x => rfl
  | ok q =>
    show (if q < (s.size : Int) then _ else _) = match (if q < (s.size : Int) then some ((27 : Int), q) else none) with
      | some x => ([], x.1, x.2)
      | none => (l.map (nodeOf s), 0, 0)
    by_cases c : q < (s.size : Int)
    · rw [if_pos c, if_pos c]
    · rw [if_neg c, if_neg c]
theorem treeErr_err {s : ByteArray} {c q : Int} (h : treeErr s (walkS s).2 = some (c, q)) : 20 ≤ c ∧ c ≤ 27 := by
  cases hr : (walkS s).2 with
  | error x =>
    rw [hr] at h
    injection h with h
    subst h
    have := (elem_err s (2 * s.size + 1)).1 0 s.size 1 c q q2_ q2_ hr
    omega
  | ok k =>
    rw [hr] at h
    unfold treeErr at h
    simp only at h
    split at h
    · injection h with h; injection h with h1 h2; omega
    · cases h
theorem TreeC_any (base gb gs : Nat) (s : ByteArray) (w : World) (hs : s.size ≤ 2097152) (aB : At w gb 9 #[.string s]) (hS : Scan base gs s [] w) (hb : base ≤ w.heap.size) (hgb : base ≤ gs) :
    Calls Tryd.prog 56 #[.pointer (some ⟨gs, 0, none⟩), .pointer (some ⟨gb, 0, none⟩)] w fun en w1 => en = optErr (treeErr s (walkS s).2) ∧ Scan base gs s (walkS s).1 w1 ∧ Below base w w1 ∧ Keeps gs w w1 := by
  have hne : gb ≠ gs := by obtain ⟨v, a, _⟩ := hS; exact aB.ne a q14_
  have he := element_reads s q2_ (2 * s.size + 1) base gs [] 0 s.size 1 w q2_ q2_ hS hb hgb q22_ q2_ q2_ q2_ q2_
  have hb0 := (aB.cell 0).trans rfl
  cases hr : (walkS s).2 with
  | error x =>
    obtain ⟨c, q⟩ := x
    have HW := Lib.hid hr
    have HE := Lib.hid he
    clear hr he hS
    go_enter Tryd.func56, Tryd.ntmps56
    go_wp2_with fail
    refine HE.out.mono ?_
    rintro en w1 ⟨h1, h2, h3, h4⟩
    have h := HW.out
    unfold walkS at h
    rw [h] at h1
    subst h1
    exact ⟨rfl, rfl, h2, h3, h4⟩
  | ok q =>
    have HW := Lib.hid hr
    have HE := Lib.hid he
    clear hr he hS
    go_enter Tryd.func56, Tryd.ntmps56
    go_wp2_with fail
    refine HE.out.mono ?_
    rintro en w1 ⟨h1, h2, h3, h4⟩
    have h := HW.out
    unfold walkS at h
    rw [h] at h1
    subst h1
    have hb1 := ((h4 _ _ _ aB hne q14_).cell 0).trans rfl
    have H2 := Lib.hid h2
    have H4 := Lib.hid h4
    have H5 := Lib.hid h
    clear h2 h4 h hb0
    by_cases c : q < (s.size : Int)
    · go_wp2_with fail
      refine ⟨rfl, ?_, H2.out, h3, H4.out⟩
      show _ = optErr (if q < (s.size : Int) then some ((27 : Int), q) else none)
      rw [if_pos c]
      rfl
    · go_wp2_with fail
      go_end0
      refine ⟨?_, H2.out, h3, H4.out⟩
      show _ = optErr (if q < (s.size : Int) then some ((27 : Int), q) else none)
      rw [if_neg q2_]
      rfl
theorem fndRow_at : ∀ (l : List Fnd) (k j : Nat) (u : Value), k < l.length → (fndCells (l.getD k ⟨0, 0, ⟨0, false, 0, 0, 0⟩⟩))[j]? = some u → (fndRow l)[k * 7 + j]? = some u := by
  intro l
  induction l with
  | nil => intro k j u h; simp at h
  | cons x l ih =>
    intro k j u hk h
    have hc : ∀ y : Fnd, (fndCells y).length = 7 := fun _ => rfl
    cases k with
    | zero =>
      simp only [fndRow, List.flatMap_cons, Nat.zero_mul, Nat.zero_add]
      have hj : j < 7 := by have := (List.getElem?_eq_some_iff.1 h).1; rwa [hc] at this
      rw [List.getElem?_append_left (by rw [hc]; exact hj)]
      exact h
    | succ k =>
      simp only [fndRow, List.flatMap_cons]
      rw [List.getElem?_append_right (by rw [hc]; omega), hc]
      have e : (k + 1) * 7 + j - 7 = k * 7 + j := by omega
      rw [e]
      exact ih k j u (by simpa using hk) (by simpa using h)
theorem fnd_cells {w : World} {base : Nat} {v : Value} {l : List Fnd} (h : w.ownsRow base 105 7 v l.length (fndRow l)) (hp : 0 < l.length) : ∃ g cap, v = .slice (some ⟨g, 0, none⟩) l.length cap ∧
    ∀ k j u, k < l.length → (fndCells (l.getD k ⟨0, 0, ⟨0, false, 0, 0, 0⟩⟩))[j]? = some u → w.cell? ⟨g, k * 7 + j, none⟩ = some u := by
  rcases h.2 with ⟨_, h1⟩ | ⟨g, cap, cur, h1, h2, h3, h4, h5, h6, h7⟩
  · omega
  · refine ⟨g, cap, h1, fun k j u hk hu => ?_⟩
    have hr := fndRow_at l k j u hk hu
    have hj : j < 7 := (List.getElem?_eq_some_iff.1 hu).1
    rw [← h7, List.getElem?_take, if_pos q2_, Array.getElem?_toList] at hr
    simp [World.cell?, h3]
    exact hr
theorem infoNode : (Tryd.prog.info? 43).map (fun i => (i.zero, i.size, i.bytes)) = some (some (.agg #[.int .i64 0, .int .i64 0, .bool false, .int .i64 0, .string ⟨#[]⟩]), 5, 48) := by kernel_rfl
theorem R_at0 {α : Type} (d : Kd α) {W : World} {base b c : Nat} {e : TypeId} {cs : Array Value} {ok : Nat → Prop} (h : At W b e cs) (hc : cs.size = c * d.sz) (hb : base ≤ b) (h63 : c ≤ 9223372036854775807) (hok : ok b) :
    Kd.R d e W base ok (.slice (some ⟨b, 0, none⟩) 0 c) ([] : List α) := by
  refine ⟨fun k hk => ?_, [], ⟨q21_, .inr ⟨b, c, cs, rfl, hb, h, Nat.zero_le _, h63, hc, q21_⟩⟩, q21_, fun j p h => by simp at h⟩
  simp only [Value.ownBlock] at hk
  injection hk with hk
  exact hk ▸ hok
set_option maxRecDepth 100000 in
set_option maxHeartbeats 4000000 in
theorem Tree_any (s : ByteArray) (w : World) (hs : s.size ≤ 2097152) :
    Calls Tryd.prog 46 #[.string s] w fun en w' => ∃ v0_ : Value, en = .returned (.tuple #[v0_, .int .i64 (treeS s).2.1, .int .i64 (treeS s).2.2]) ∧ Kd.R kNode 43 w' w.heap.size (fun _ => True) v0_ (treeS s).1 ∧ Below w.heap.size w w' := by
  have hmf : ∀ (fn : Fn) (first cap : Array Value) (w : World), (Instr.makeFunc fn first cap).run Tryd.prog w = .ok (.func fn first cap) w := fun _ _ _ _ => rfl
  obtain ⟨l, hl⟩ : ∃ l, (walkS s).1 = l := ⟨_, rfl⟩
  obtain ⟨r, hr⟩ : ∃ r, treeErr s (walkS s).2 = r := ⟨_, rfl⟩
  obtain ⟨tr, htr⟩ : ∃ tr, treeS s = tr := ⟨_, rfl⟩
  have htr2 : tr = match (generalizing := false) r with | some x => ([], x.1, x.2) | none => (l.map (nodeOf s), 0, 0) := by
    rw [← htr, ← hr, ← hl]
    unfold treeS
    rw [← treeR_eq]
  have HC : ∀ (W : World) (base B gb gs : Nat), base ≤ W.heap.size → base ≤ gs → At W gb 9 #[.string s] → At W gs 102 #[.string s, .slice none 0 0] → At W B 77 #[.int .i64 0, .int .i64 0] →
      Calls Tryd.prog 56 #[.pointer (some ⟨gs, 0, none⟩), .pointer (some ⟨gb, 0, none⟩)] W (RunEnd r B fun w1 => Scan base gs s l w1 ∧ Below base W w1 ∧ At w1 gb 9 #[.string s] ∧ At w1 B 77 #[.int .i64 0, .int .i64 0]) := by
    intro W base B gb gs hb hgs a1 a2 a3
    refine (TreeC_any base gb gs s W hs a1 ⟨_, a2, own_nil W base 105 7⟩ hb hgs).mono ?_
    rintro en w1 ⟨h1, h2, h3, h4⟩
    rw [hr] at h1
    rw [hl] at h2
    refine ⟨?_, h4 _ _ _ a3 (a3.ne a2 q14_) q14_, h2, h3, h4 _ _ _ a1 (a1.ne a2 q14_) q14_, h4 _ _ _ a3 (a3.ne a2 q14_) q14_⟩
    subst h1
    cases r with
    | none => rfl
    | some x => obtain ⟨c, q⟩ := x; rfl
  have HCE : Hid (∀ c q, r = some (c, q) → 20 ≤ c ∧ c ≤ 27) := fun c q h => treeErr_err (s := s) (by rw [hr]; exact h)
  have HBD : Hid (∀ x ∈ l, 0 ≤ x.at_ ∧ 0 ≤ x.head.len ∧ 2 ≤ x.head.size ∧ x.at_ + x.head.size + x.head.len ≤ (s.size : Int)) := fun x hx => (elem_in s (2 * s.size + 1)).1 0 s.size 1 x (by rw [← hl] at hx; exact hx)
  have HLN : Hid (r = none → l.length ≤ s.size) := by
    intro h
    rw [← hr] at h
    cases hw : (walkS s).2 with
    | error x => rw [hw] at h; cases h
    | ok q =>
      have := (elem_ok s (2 * s.size + 1)).1 0 s.size 1 q hw
      have hl' : (elemF s (2 * s.size + 1) 0 s.size 1).1 = l := hl
      rw [hl'] at this
      omega
  rw [htr]
  have HSP := Lib.hid htr2
  have HC := Lib.hid HC
  have HL := Lib.hid hl
  clear htr htr2 hr hl
  go_enter Tryd.func46, Tryd.ntmps46
  go_wp2_with fail
  refine gen2 (G := fun W => Calls _ _ _ W _) fun W hB hz k1 k2 => ?_
  have aF := At.new W 77 #[.int .i64 0, .int .i64 0]
  refine (caught_TreeC _ _ r _ (HC.out _ w.heap.size _ _ _ q22_ q2_ (k1.alloc _) (k2.alloc _) aF)).mono ?_
  rintro en w2 ⟨rfl, w1, ⟨⟨v, m1, m2⟩, m3, m4, m5⟩, hg⟩
  have zw : W.heap.size + 1 ≤ w1.heap.size := by have := m3.size; simpa using this
  obtain ⟨A, cp, rfl⟩ := own_slice m2
  have n1 := m1.kept hg q2_
  have n4 := m4.kept hg q2_
  have n2 : w2.ownsRow w.heap.size 105 7 (.slice A l.length cp) l.length (fndRow l) := own_other m2 hg (by right; exact fun e => own_ne m2 m5 q14_ e.symm)
  have B2 : Below w.heap.size w w2 := below_kept ((hB.alloc q2_ _).trans m3) hg q2_ q2_
  have hz2 : w.heap.size ≤ w2.heap.size := B2.size
  clear m1 m2 m3 m4 m5 hg k1 k2 aF hB HC hz zw
  cases r with
  | some x =>
    obtain ⟨c, q⟩ := x
    have hc : (c != 0) = true := by have := HCE.out c q rfl; simp; omega
    have e1 : errOf (some (c, q)) = c := rfl
    have e2 : atOf (some (c, q)) = q := rfl
    clear n1 n4 n2
    go_wp2_with fail
    go_region
    go_wp2
    refine bodyPost_ret (v := .tuple #[.slice none 0 0, .int .i64 c, .int .i64 q]) ?_ rfl ⟨.slice none 0 0, ?_, ?_, ?_⟩
    · simp [results, Tryd.results46, e1, e2]
    · rw [HSP.out]
    · rw [HSP.out]
      exact Kd.R_nil _ _ _ _ _
    · exact (B2.alloc hz2 _).drew
  | none =>
    have e1 : errOf none = 0 := rfl
    have lB := n4.lt
    have lS := n1.lt
    have c1 := (n1.cell 1).trans rfl
    have hll : l.length ≤ 2097153 := by have := HLN.out rfl; omega
    have hmk : ∀ W, (Instr.makeSlice 45 (.int .i64 0) (.int .i64 l.length)).run Tryd.prog W = .ok (.slice (some ⟨W.heap.size, 0, none⟩) 0 l.length) (W.alloc (.cells (madeCells #[.int .i64 0, .int .i64 0, .bool false, .int .i64 0, .string ⟨#[]⟩] (l.length * 5)) 43)) := by
      intro W
      obtain ⟨i0, hi, hz0, hz1, hz2⟩ := info_parts infoNode
      have h := run_make (P := Tryd.prog) W 45 43 i0 _ Tryd.underlying45 hi hz0 .i64 .i64 0 l.length q2_ q2_ (by rw [hz2]; omega) q2_
      rw [hz1] at h
      simp only [Int.toNat_natCast, Int.toNat_zero] at h
      exact h
    go_wp2_with fail
    refine gen2 (G := fun W => Code.wp _ _ _ _ W) fun W3 hB3 hz3 f1 f2 => ?_
    have r4 := n4.below hB3 lB
    have r2 := own_below n2 hB3 (Nat.le_refl _)
    have rR := R_at0 kNode (base := w.heap.size) (c := l.length) (ok := fun _ => True) f2 (size_madeCells _ _) q2_ q2_ trivial
    have rB := B2.trans (hB3.mono hz2)
    clear f1 f2 hB3 hz3 n1 n2 n4 c1 hmk e1 lS lB B2
    go_loopw [7, 30] (fun nv i wr => ∃ (k : Nat) (A2 : Option Addr) (c2 : Nat), k ≤ l.length ∧ nv = .slice A2 k c2 ∧ i = .int .i64 k ∧ At wr w.heap.size 9 #[.string s] ∧ wr.ownsRow w.heap.size 105 7 (.slice A l.length cp) l.length (fndRow l) ∧
        Kd.R kNode 43 wr w.heap.size (fun _ => True) (.slice A2 k c2) ((l.take k).map (nodeOf s)) ∧ Below w.heap.size w wr)
      (fun _ i _ => l.length - (intOf i).toNat)
    case atStart => exact ⟨0, _, _, Nat.zero_le _, rfl, rfl, r4, r2, rR, rB⟩
    case round =>
      obtain ⟨k, A2, c2, hk, rfl, rfl, q4, q2, qR, qB⟩ := hrel
      clear r4 r2 rR rB
      by_cases hkl : k < l.length
      · obtain ⟨g, cap, he, hcells⟩ := fnd_cells q2 q2_
        injection he with he1 he2 he3
        subst he1 he3
        obtain ⟨x, hx⟩ : ∃ x, x = l.getD k ⟨0, 0, ⟨0, false, 0, 0, 0⟩⟩ := ⟨_, rfl⟩
        have hb := HBD.out x (by rw [hx]; simp [hkl])
        have hcl : ∀ j u, (fndCells x)[j]? = some u → wr.cell? ⟨g, k * 7 + j, none⟩ = some u := fun j u hu => hcells k j u hkl (by rw [← hx]; exact hu)
        have x0 := hcl 0 _ rfl
        have x1 := hcl 1 _ rfl
        have x2 := hcl 2 _ rfl
        have x3 := hcl 3 _ rfl
        have x4 := hcl 4 _ rfl
        have x5 := hcl 5 _ rfl
        have x6 := hcl 6 _ rfl
        have HX := Lib.hid hx
        have i0 : (0 : Int) ≤ k := by omega
        have i1 : (k : Int) < l.length := by omega
        clear hcells hcl hx
        rw [Nat.add_zero] at x0
        obtain ⟨b1, b2, b3, b4⟩ := hb
        have l4 := q4.lt
        have c4 := (q4.cell 0).trans rfl
        have hlen : ((l.take k).map (nodeOf s)).length = k := by simp; omega
        have hlim : (((l.take k).map (nodeOf s)).length + 1) * 48 ≤ 140737488355328 := by rw [hlen]; omega
        have hnext : ((l.take (k + 1)).map (nodeOf s)) = (l.take k).map (nodeOf s) ++ [nodeOf s x] := by
          rw [List.take_succ_eq_append_getElem hkl, List.map_append, HX.out]
          simp [hkl]
        have HNX := Lib.hid hnext
        have zz : w.heap.size ≤ wr.heap.size := qB.size
        clear hlen hnext
        cases hmd : x.head.made with
        | true =>
          have hno : nodeOf s x = (x.depth, x.head.cls, true, x.head.tag, ⟨#[]⟩) := by unfold nodeOf; rw [hmd]; rfl
          have HNO := Lib.hid hno
          rw [hmd] at x3
          clear hno
          go_wp2_with (at_builtin; go_must (refine Kd.R_append kNode (w0 := w) w.heap.size rfl (.tmp 64) (.tmp 66) 45 43 _ 48 rfl Tryd.underlying45 infoNode rfl q14_ q14_ (.slice A2 k c2) ((l.take k).map (nodeOf s)) (nodeOf s x) [.int .i64 x.depth, .int .i64 x.head.cls, .bool true, .int .i64 x.head.tag, .string ⟨#[]⟩] (fun _ => True) (fun _ => False) rfl (by first | (go_simp; done) | (go_simp; rfl)) (by rw [HNO.out]; exact kNode_mkM _ _ _ _) (fun _ h => h.elim) (fun _ _ => trivial) (Kd.R_alloc (Kd.R_alloc qR _) _) ((qB.alloc zz _).alloc q22_ _) q22_ hlim ?_); intro v1 w5 hR5 hb5 hg5 hat5)
          have hR6 := hR5
          rw [← HNX.out] at hR6
          have q4' : At w5 w.heap.size 9 #[.string s] := (hg5.block _ q22_ (Kd.R_ne qR q4 q14_)).trans ((q4.alloc _).alloc _)
          have q2' : w5.ownsRow w.heap.size 105 7 (.slice (some ⟨g, 0, none⟩) l.length cp) l.length (fndRow l) := own_other (pw_own_below (pw_own_below q2 ((Below.refl _ _).alloc (Nat.le_refl _) _)) ((Below.refl _ _).alloc (Nat.le_refl _) _)) hg5 (by
            obtain ⟨inner, ho⟩ := Kd.R_own qR
            exact own_type_ne q2 ho q14_)
          obtain ⟨A5, c5, rfl⟩ := Kd.R_slice hR6
          have hlen : ((l.take (k + 1)).map (nodeOf s)).length = k + 1 := by simp; omega
          rw [hlen] at hR6 ⊢
          clear hR5 hg5 hat5 q4 q2 qR qB x0 x1 x2 x3 x4 x5 x6 c4
          go_wp2
          go_roundw
          case rel => exact ⟨k + 1, A5, c5, q2_, rfl, by go_num, q4', q2', hR6, hb5⟩
          case measure => simp [intOf]; omega
        | false =>
          have hno : nodeOf s x = (x.depth, x.head.cls, false, x.head.tag, s.extract (x.at_ + x.head.size).toNat (x.at_ + x.head.size + x.head.len).toNat) := by unfold nodeOf; rw [hmd]; rfl
          have HNO := Lib.hid hno
          rw [hmd] at x3
          clear hno
          go_wp2_with (at_builtin; go_must (refine Kd.R_append kNode (w0 := w) w.heap.size rfl (.tmp 64) (.tmp 66) 45 43 _ 48 rfl Tryd.underlying45 infoNode rfl q14_ q14_ (.slice A2 k c2) ((l.take k).map (nodeOf s)) (nodeOf s x) [.int .i64 x.depth, .int .i64 x.head.cls, .bool false, .int .i64 x.head.tag, .string (s.extract (x.at_ + x.head.size).toNat (x.at_ + x.head.size + x.head.len).toNat)] (fun _ => True) (fun _ => False) rfl (by first | (go_simp; done) | (go_simp; rfl)) (by rw [HNO.out]; exact kNode_mkM _ _ _ _) (fun _ h => h.elim) (fun _ _ => trivial) (Kd.R_alloc (Kd.R_alloc qR _) _) ((qB.alloc zz _).alloc q22_ _) q22_ hlim ?_); intro v1 w5 hR5 hb5 hg5 hat5)
          have hR6 := hR5
          rw [← HNX.out] at hR6
          have q4' : At w5 w.heap.size 9 #[.string s] := (hg5.block _ q22_ (Kd.R_ne qR q4 q14_)).trans ((q4.alloc _).alloc _)
          have q2' : w5.ownsRow w.heap.size 105 7 (.slice (some ⟨g, 0, none⟩) l.length cp) l.length (fndRow l) := own_other (pw_own_below (pw_own_below q2 ((Below.refl _ _).alloc (Nat.le_refl _) _)) ((Below.refl _ _).alloc (Nat.le_refl _) _)) hg5 (by
            obtain ⟨inner, ho⟩ := Kd.R_own qR
            exact own_type_ne q2 ho q14_)
          obtain ⟨A5, c5, rfl⟩ := Kd.R_slice hR6
          have hlen : ((l.take (k + 1)).map (nodeOf s)).length = k + 1 := by simp; omega
          rw [hlen] at hR6 ⊢
          clear hR5 hg5 hat5 q4 q2 qR qB x0 x1 x2 x3 x4 x5 x6 c4
          go_wp2
          go_roundw
          case rel => exact ⟨k + 1, A5, c5, q2_, rfl, by go_num, q4', q2', hR6, hb5⟩
          case measure => simp [intOf]; omega
      · obtain rfl : k = l.length := by omega
        go_wp2
        refine bodyPost_ret (v := .tuple #[.slice A2 l.length c2, .int .i64 0, .int .i64 0]) ?_ rfl ⟨.slice A2 l.length c2, ?_, ?_, qB⟩
        · simp [results, Tryd.results46]
        · rw [HSP.out]
        · rw [HSP.out]
          simpa using qR
end Go.Proofs.YtogjljpncdmlkaaDoor.W
end
section
namespace Go.Proofs.YtogjljpncdmlkaaDoor.W
open Go.RowKit Go.Proofs.YtogjljpncdmlkaaDoorW.PrintWords Go.Proofs.YtogjljpncdmlkaaDoorW.PrintLast
set_option linter.unusedVariables false
set_option linter.unusedSimpArgs false
theorem foll_none (n : NodeT) : follB none n = (namedB n.2.1 n.2.2.2.1 && !(n.2.2.1 && decide (n.2.2.2.2.size ≠ 0)) && decide (n.1 = 1)) := rfl
theorem foll_some (n : NodeT) (d : Int) (m : Bool) : follB (some (d, m)) n = (namedB n.2.1 n.2.2.2.1 && !(n.2.2.1 && decide (n.2.2.2.2.size ≠ 0)) && (decide (2 ≤ n.1) && decide (n.1 ≤ if m = true then d + 1 else d))) := rfl
theorem toList_emp (b : ByteArray) : (b.toList.isEmpty = true ↔ b.size = 0) ∧ (b.toList = [] ↔ b.size = 0) := by
  have h : b.toList.length = b.size := by rw [ByteArray.toList_eq, Array.length_toList]; rfl
  refine ⟨by rw [List.isEmpty_iff, ← List.length_eq_zero_iff, h], by rw [← List.length_eq_zero_iff, h]⟩
set_option maxRecDepth 100000 in
set_option maxHeartbeats 1000000 in
theorem follows_bad (v : Value) (b : Option (Int × Bool)) (n : NodeT) (w : World) (h : (namedB n.2.1 n.2.2.2.1 && !(n.2.2.1 && decide (n.2.2.2.2.size ≠ 0))) = false) :
    Calls Tryd.prog 41 #[v, .agg #[.int .i64 n.1, .int .i64 n.2.1, .bool n.2.2.1, .int .i64 n.2.2.2.1, .string n.2.2.2.2]] w fun en w' => en = .returned (.bool (follB b n)) ∧ Below w.heap.size w w' := by
  obtain ⟨d, c, m, t, s⟩ := n
  have hf : follB b (d, c, m, t, s) = false := by unfold follB; rw [h]; rfl
  rw [hf]
  simp only at h ⊢
  cases hn : namedB c t with
  | false =>
    have HN := Lib.hid hn
    clear hn h hf
    go_enter Tryd.func41, Tryd.ntmps41
    go_wp2_with fail
    refine (named_any c t _).mono ?_
    rintro en w1 ⟨rfl, nd, rfl⟩
    rw [HN.out]
    go_wp2
    go_ret
    exact ⟨rfl, below_draws ((Below.refl _ _).alloc (Nat.le_refl _) _) _⟩
  | true =>
    rw [hn, Bool.true_and, Bool.not_eq_false', Bool.and_eq_true, decide_eq_true_eq] at h
    obtain ⟨hm, hs⟩ := h
    subst hm
    have he : s.toList ≠ [] := fun h => hs ((toList_emp s).2.1 h)
    have he2 : s.toList.isEmpty = false := by rw [Bool.eq_false_iff]; exact fun h => hs ((toList_emp s).1.1 h)
    have HN := Lib.hid hn
    clear hn hf hs
    go_enter Tryd.func41, Tryd.ntmps41
    go_wp2_with fail
    refine (named_any c t _).mono ?_
    rintro en w1 ⟨rfl, nd, rfl⟩
    rw [HN.out]
    go_wp2
    go_ret
    exact ⟨rfl, below_draws ((Below.refl _ _).alloc (Nat.le_refl _) _) _⟩
set_option maxRecDepth 100000 in
set_option maxHeartbeats 2000000 in
theorem follows_first (n : NodeT) (w : World) :
    Calls Tryd.prog 41 #[.pointer none, .agg #[.int .i64 n.1, .int .i64 n.2.1, .bool n.2.2.1, .int .i64 n.2.2.2.1, .string n.2.2.2.2]] w fun en w' => en = .returned (.bool (follB none n)) ∧ Below w.heap.size w w' := by
  cases h : (namedB n.2.1 n.2.2.2.1 && !(n.2.2.1 && decide (n.2.2.2.2.size ≠ 0))) with
  | false => exact follows_bad _ none n w h
  | true =>
    have hf : follB none n = (decide (n.1 = 1)) := by rw [foll_none, h, Bool.true_and]
    rw [hf]
    obtain ⟨d, c, m, t, s⟩ := n
    simp only [Bool.and_eq_true, Bool.not_eq_true', Bool.and_eq_false_iff, decide_eq_false_iff_not] at h ⊢
    obtain ⟨hn, hms⟩ := h
    clear hf
    have HN := Lib.hid hn
    clear hn
    cases m with
    | false =>
      clear hms
      by_cases hd : d = 1
      · subst hd
        go_enter Tryd.func41, Tryd.ntmps41
        go_wp2_with fail
        refine (named_any c t _).mono ?_
        rintro en w1 ⟨rfl, nd, rfl⟩
        rw [HN.out]
        go_wp2
        go_ret
        exact ⟨rfl, below_draws ((Below.refl _ _).alloc (Nat.le_refl _) _) _⟩
      · have e : decide (d = 1) = false := decide_eq_false hd
        have e2 : (d == 1) = false := beq_eq_false_iff_ne.2 hd
        rw [e]
        go_enter Tryd.func41, Tryd.ntmps41
        go_wp2_with fail
        refine (named_any c t _).mono ?_
        rintro en w1 ⟨rfl, nd, rfl⟩
        rw [HN.out]
        go_wp2
        go_ret
        exact ⟨rfl, below_draws ((Below.refl _ _).alloc (Nat.le_refl _) _) _⟩
    | true =>
      have hs : s.size = 0 := by
        rcases hms with h | h
        · cases h
        · omega
      have he : s.toList = [] := (toList_emp s).2.2 hs
      have he2 : s.toList.isEmpty = true := (toList_emp s).1.2 hs
      clear hms hs
      by_cases hd : d = 1
      · subst hd
        go_enter Tryd.func41, Tryd.ntmps41
        go_wp2_with fail
        refine (named_any c t _).mono ?_
        rintro en w1 ⟨rfl, nd, rfl⟩
        rw [HN.out]
        go_wp2
        go_ret
        exact ⟨rfl, below_draws ((Below.refl _ _).alloc (Nat.le_refl _) _) _⟩
      · have e : decide (d = 1) = false := decide_eq_false hd
        have e2 : (d == 1) = false := beq_eq_false_iff_ne.2 hd
        rw [e]
        go_enter Tryd.func41, Tryd.ntmps41
        go_wp2_with fail
        refine (named_any c t _).mono ?_
        rintro en w1 ⟨rfl, nd, rfl⟩
        rw [HN.out]
        go_wp2
        go_ret
        exact ⟨rfl, below_draws ((Below.refl _ _).alloc (Nat.le_refl _) _) _⟩
set_option maxRecDepth 100000 in
set_option maxHeartbeats 2000000 in
theorem follows_next (ad : Addr) (bd : Int) (bm : Bool) (n : NodeT) (w : World) (hb : 0 ≤ bd) (hb2 : bd ≤ 64) (c0 : w.cell? ad = some (.int .i64 bd)) (c2 : w.cell? ⟨ad.block, ad.off + 2, none⟩ = some (.bool bm)) (hlt : ad.block < w.heap.size) (hsp : ad.spot = none) :
    Calls Tryd.prog 41 #[.pointer (some ad), .agg #[.int .i64 n.1, .int .i64 n.2.1, .bool n.2.2.1, .int .i64 n.2.2.2.1, .string n.2.2.2.2]] w fun en w' => en = .returned (.bool (follB (some (bd, bm)) n)) ∧ Below w.heap.size w w' := by
  obtain ⟨ab, ao, asp⟩ := ad
  simp only at hsp hlt c2
  subst hsp
  cases h : (namedB n.2.1 n.2.2.2.1 && !(n.2.2.1 && decide (n.2.2.2.2.size ≠ 0))) with
  | false => exact follows_bad _ _ n w h
  | true =>
    have hf : follB (some (bd, bm)) n = (decide (2 ≤ n.1) && decide (n.1 ≤ if bm = true then bd + 1 else bd)) := by rw [foll_some, h, Bool.true_and]
    rw [hf]
    obtain ⟨d, c, m, t, s⟩ := n
    simp only [Bool.and_eq_true, Bool.not_eq_true', Bool.and_eq_false_iff, decide_eq_false_iff_not] at h ⊢
    obtain ⟨hn, hms⟩ := h
    clear hf
    have HN := Lib.hid hn
    clear hn
    obtain ⟨most, hmost⟩ : ∃ x, x = if bm = true then bd + 1 else bd := ⟨_, rfl⟩
    rw [← hmost]
    have HM := Lib.hid hmost
    have hmr : 0 ≤ most ∧ most ≤ 65 := by rw [hmost]; split <;> omega
    clear hmost
    have hcases : m = false ∨ (m = true ∧ s.toList = [] ∧ s.toList.isEmpty = true) := by
      cases m with
      | false => exact .inl rfl
      | true =>
        have hs : s.size = 0 := by
          rcases hms with h | h
          · cases h
          · omega
        exact .inr ⟨rfl, (toList_emp s).2.2 hs, (toList_emp s).1.2 hs⟩
    clear hms
    by_cases hd : 2 ≤ d
    · have q1 : decide (2 ≤ d) = true := decide_eq_true hd
      rw [q1, Bool.true_and]
      rcases hcases with rfl | ⟨rfl, he, he2⟩
      all_goals
        cases bm
        all_goals
          have hm2 := HM.out
          simp only [if_true, Bool.false_eq_true, if_false] at hm2
          subst hm2
          go_enter Tryd.func41, Tryd.ntmps41
          go_wp2_with fail
          refine (named_any c t _).mono ?_
          rintro en w1 ⟨rfl, nd, rfl⟩
          rw [HN.out]
          go_wp2
          all_goals
            go_ret
            first
              | exact ⟨rfl, below_draws ((Below.refl _ _).alloc (Nat.le_refl _) _) _⟩
              | exact ⟨by simp_all, below_draws ((Below.refl _ _).alloc (Nat.le_refl _) _) _⟩
    · have q1 : decide (2 ≤ d) = false := decide_eq_false hd
      rw [q1, Bool.false_and]
      rcases hcases with rfl | ⟨rfl, he, he2⟩
      all_goals
        cases bm
        all_goals
          go_enter Tryd.func41, Tryd.ntmps41
          go_wp2_with fail
          refine (named_any c t _).mono ?_
          rintro en w1 ⟨rfl, nd, rfl⟩
          rw [HN.out]
          go_wp2
          all_goals
            go_ret
            first
              | exact ⟨rfl, below_draws ((Below.refl _ _).alloc (Nat.le_refl _) _) _⟩
              | exact ⟨by simp_all, below_draws ((Below.refl _ _).alloc (Nat.le_refl _) _) _⟩
end Go.Proofs.YtogjljpncdmlkaaDoor.W
end
section
namespace Go.Proofs.YtogjljpncdmlkaaDoor.W
open Go.RowKit Go.Proofs.YtogjljpncdmlkaaDoorW.PrintWords Go.Proofs.YtogjljpncdmlkaaDoorW.PrintLast
set_option linter.unusedVariables false
set_option linter.unusedSimpArgs false
theorem node_at {w : World} {A : Option Addr} {n : Nat} {xs : List NodeT} (h : Kd.C kNode w A n xs) (i : Nat) (hi : i < n) : ∃ ad, A = some ad ∧ w.cell? (ad.add (i * 5)) = some (.int .i64 (nd xs i).1) ∧
    w.cell? ⟨(ad.add (i * 5)).block, (ad.add (i * 5)).off + 1, none⟩ = some (.int .i64 (nd xs i).2.1) ∧ w.cell? ⟨(ad.add (i * 5)).block, (ad.add (i * 5)).off + 2, none⟩ = some (.bool (nd xs i).2.2.1) ∧
    w.cell? ⟨(ad.add (i * 5)).block, (ad.add (i * 5)).off + 3, none⟩ = some (.int .i64 (nd xs i).2.2.2.1) ∧ w.cell? ⟨(ad.add (i * 5)).block, (ad.add (i * 5)).off + 4, none⟩ = some (.string (nd xs i).2.2.2.2) := by
  obtain ⟨ad, c, e, _, hK, hc0⟩ := Kd.C_get h zN (i : Int) q2_ q2_
  have hc : ∀ j u, c[j]? = some u → w.cell? (ad.add (i * 5 + j)) = some u := hc0
  obtain ⟨_, _, rfl, rfl, ⟨_, _, rfl, rfl, ⟨_, _, rfl, rfl, ⟨_, _, rfl, rfl, rfl⟩⟩⟩⟩ := hK
  refine ⟨ad, e, hc 0 _ rfl, by rw [← add_field _ _ 1 q2_]; exact hc 1 _ rfl, by rw [← add_field _ _ 2 q2_]; exact hc 2 _ rfl, by rw [← add_field _ _ 3 q2_]; exact hc 3 _ rfl, by rw [← add_field _ _ 4 q2_]; exact hc 4 _ rfl⟩
theorem infoU8 : (Tryd.prog.info? 5).map (fun i => (i.zero, i.size, i.bytes)) = some (some (.int .u8 0), 1, 1) := by kernel_rfl
theorem str_bytes (b : ByteArray) : strOfNums (bytesOf b) = b := by
  apply ByteArray.ext
  show ((bytesOf b).map fun n => UInt8.ofNat n.toNat).toArray = b.data
  unfold bytesOf
  rw [List.map_map]
  have : ((fun n : Int => UInt8.ofNat n.toNat) ∘ fun c : UInt8 => (c.toNat : Int)) = id := by
    funext c
    simp [Function.comp]
  rw [this, List.map_id]
structure WrIn (w0 : World) (A : Option Addr) (c : Nat) (xs : List NodeT) : Prop where
  reads : Kd.C kNode w0 A xs.length xs
  cap : xs.length ≤ c
  few : xs.length ≤ 100000000
  light : wt xs 0 xs.length ≤ 134217728
  made : ∀ i, (nd xs i).2.2.1 = true → (nd xs i).2.2.2.2.size = 0
def WrEnd (xs : List NodeT) (m i g : Nat) (A : Option Addr) (c : Nat) (w : World) (en : Ending) (w' : World) : Prop :=
  en = .returned (.string (wrE xs m i).1) ∧ At w' g 75 #[.slice A xs.length c, .int .i64 ((wrE xs m i).2 : Nat)] ∧ w.grownBy w' (some g)
def Writes (w0 : World) (A : Option Addr) (c : Nat) (xs : List NodeT) (m : Nat) : Prop :=
  ∀ (i g : Nat) (w : World), i < xs.length → 2 * (xs.length - i) + 1 ≤ m → Below w0.heap.size w0 w → w0.heap.size ≤ g → At w g 75 #[.slice A xs.length c, .int .i64 (i : Nat)] →
    Calls Tryd.prog 44 #[.pointer (some ⟨g, 0, none⟩)] w (WrEnd xs m i g A c w)
theorem grown_trans {a b c : World} {r : Option Nat} (h : a.grownBy b r) (k : b.grownBy c r) : a.grownBy c r :=
  ⟨k.os.trans h.os, k.tape.trans h.tape, k.output.trans h.output, Nat.le_trans h.size k.size, fun i hi hn => (k.block i (Nat.lt_of_lt_of_le hi h.size) hn).trans (h.block i hi hn)⟩
theorem grown_drew {a b : World} {r : Option Nat} (h : a.grownBy b r) : a.grownBy b.drew r := ⟨h.os, h.tape, h.output, h.size, h.block⟩
theorem below_grow {B : Nat} {a b c : World} {g : Nat} (h : Below B a b) (k : b.grownBy c (some g)) (hB : B ≤ b.heap.size) (hg : B ≤ g) : Below B a c := below_kept h k hB hg
set_option maxRecDepth 100000 in
set_option maxHeartbeats 2000000 in
theorem element_write (w0 : World) (A : Option Addr) (c : Nat) (xs : List NodeT) (hI : WrIn w0 A c xs) (m : Nat) (ih : ∀ k, k < m + 1 → Writes w0 A c xs k) (i g : Nat) (w : World) (hi : i < xs.length) (hm : 2 * (xs.length - i) + 1 ≤ m + 1) (hB : Below w0.heap.size w0 w) (hg : w0.heap.size ≤ g)
    (hA : At w g 75 #[.slice A xs.length c, .int .i64 (i : Nat)]) : Calls Tryd.prog 44 #[.pointer (some ⟨g, 0, none⟩)] w (WrEnd xs (m + 1) i g A c w) := by
  obtain ⟨hR, hcap, hfew, hlight, hmade⟩ := hI
  obtain ⟨n, hn⟩ : ∃ n, n = nd xs i := ⟨_, rfl⟩
  obtain ⟨ad, rfl, n0, n1, n2, n3, n4⟩ := node_at (Kd.C_below hR hB) i hi
  rw [← hn] at n0 n1 n2 n3 n4
  have HN := Lib.hid hn
  have HM := Lib.hid hmade
  have IH := Lib.hid ih
  have HR := Lib.hid hR
  have hbl : (ad.add (i * 5)).block < w.heap.size := World.block_lt_of_cell? w _ n0
  have i0 : (0 : Int) ≤ (i : Int) := by omega
  have i1 : (i : Int) < (xs.length : Int) := by omega
  have hlt := hA.lt
  clear hn hmade ih hR
  go_enter Tryd.func44, Tryd.ntmps44
  go_wp2_with fail
  refine start_ (n := 12) (S := fun V => V.cell? ⟨g, 0, none⟩ = some (.slice (some ad) xs.length c) ∧ V.cell? ⟨g, 1, none⟩ = some (.int .i64 (i : Nat)) ∧ V.cell? (ad.add (i * 5)) = some (.int .i64 n.1) ∧ V.cell? ⟨(ad.add (i * 5)).block, (ad.add (i * 5)).off + 1, none⟩ = some (.int .i64 n.2.1) ∧ V.cell? ⟨(ad.add (i * 5)).block, (ad.add (i * 5)).off + 2, none⟩ = some (.bool n.2.2.1) ∧ V.cell? ⟨(ad.add (i * 5)).block, (ad.add (i * 5)).off + 3, none⟩ = some (.int .i64 n.2.2.2.1) ∧ V.cell? ⟨(ad.add (i * 5)).block, (ad.add (i * 5)).off + 4, none⟩ = some (.string n.2.2.2.2)) (ds := [11]) #[false, false, false, false, false, false, false, false, false, false, false, false] q13_ rfl rfl ⟨(hA.drew.cell 0).trans rfl, (hA.drew.cell 1).trans rfl, n0, n1, n2, n3, n4⟩ (fun hHeld => ?_)
  refine pure_ (i := 0) (N := some 5) (v := ?_) (a' := ?_) #[true, false, false, false, false, false, false, false, false, false, false, false] rfl rfl q13_ (fun _ _ _ h => h) (Or.inl ⟨q30_, ?_⟩) ?_ ?_
  rotate_left
  · intro w'
    go_simp
    with_reducible rfl
  rotate_left
  · simp only [Act.put, List.setIfInBounds_toArray, List.set_cons_zero, List.set_cons_succ, i64_w, i32_w]
    rfl
  refine pure_ (i := 1) (N := some 6) (v := ?_) (a' := ?_) #[true, true, false, false, false, false, false, false, false, false, false, false] rfl rfl q13_ (fun _ _ _ h => h) (Or.inl ⟨q30_, ?_⟩) ?_ ?_
  rotate_left
  · intro w'
    go_simp
    with_reducible rfl
  rotate_left
  · simp only [Act.put, List.setIfInBounds_toArray, List.set_cons_zero, List.set_cons_succ, i64_w, i32_w]
    rfl
  refine pure_ (i := 2) (N := some 7) (v := ?_) (a' := ?_) #[true, true, true, false, false, false, false, false, false, false, false, false] rfl rfl q13_ (fun _ _ _ h => h) (Or.inl ⟨q30_, ?_⟩) ?_ ?_
  rotate_left
  · intro w'
    go_simp
    with_reducible rfl
  rotate_left
  · simp only [Act.put, List.setIfInBounds_toArray, List.set_cons_zero, List.set_cons_succ, i64_w, i32_w]
    rfl
  refine pure_ (i := 4) (N := some 9) (v := ?_) (a' := ?_) #[true, true, true, false, true, false, false, false, false, false, false, false] rfl rfl q13_ (fun _ _ _ h => h) (Or.inl ⟨q30_, ?_⟩) ?_ ?_
  rotate_left
  · intro w'
    go_simp
    with_reducible rfl
  rotate_left
  · simp only [Act.put, List.setIfInBounds_toArray, List.set_cons_zero, List.set_cons_succ, i64_w, i32_w]
    rfl
  refine pure_ (i := 5) (N := some 10) (v := ?_) (a' := ?_) #[true, true, true, false, true, true, false, false, false, false, false, false] rfl rfl q13_ (fun _ _ _ h => h) (Or.inl ⟨q30_, ?_⟩) ?_ ?_
  rotate_left
  · intro w'
    go_simp
    with_reducible rfl
  rotate_left
  · simp only [Act.put, List.setIfInBounds_toArray, List.set_cons_zero, List.set_cons_succ, i64_w, i32_w]
    rfl
  refine pure_ (i := 6) (N := some 11) (v := ?_) (a' := ?_) #[true, true, true, false, true, true, true, false, false, false, false, false] rfl rfl q13_ (fun _ _ _ h => h) (Or.inl ⟨q30_, ?_⟩) ?_ ?_
  rotate_left
  · intro w'
    go_simp
    with_reducible rfl
  rotate_left
  · simp only [Act.put, List.setIfInBounds_toArray, List.set_cons_zero, List.set_cons_succ, i64_w, i32_w]
    rfl
  refine take_ (i := 3) (N := some 8) (v := ?_) (a' := ?_) #[true, true, true, true, true, true, true, false, false, false, false, false] rfl rfl q13_ (fun _ _ _ h => h) (Or.inl ⟨q30_, ?_⟩) hHeld ?_ ?_
  rotate_left
  · rintro w' ⟨s0, s1, s2, s3, s4, s5, s6⟩
    go_simp
    with_reducible rfl
  rotate_left
  · simp only [Act.put, List.setIfInBounds_toArray, List.set_cons_zero, List.set_cons_succ, i64_w, i32_w]
    rfl
  refine take_ (i := 7) (N := some 12) (v := ?_) (a' := ?_) #[true, true, true, true, true, true, true, true, false, false, false, false] rfl rfl q13_ (fun _ _ _ h => h) (Or.inl ⟨q30_, ?_⟩) hHeld ?_ ?_
  rotate_left
  · rintro w' ⟨s0, s1, s2, s3, s4, s5, s6⟩
    go_simp
    with_reducible rfl
  rotate_left
  · simp only [Act.put, List.setIfInBounds_toArray, List.set_cons_zero, List.set_cons_succ, i64_w, i32_w]
    rfl
  refine pure_ (i := 8) (N := some 13) (v := ?_) (a' := ?_) #[true, true, true, true, true, true, true, true, true, false, false, false] rfl rfl q13_ (fun _ _ _ h => h) (Or.inl ⟨q30_, ?_⟩) ?_ ?_
  rotate_left
  · intro w'
    go_simp
    with_reducible rfl
  rotate_left
  · simp only [Act.put, List.setIfInBounds_toArray, List.set_cons_zero, List.set_cons_succ, i64_w, i32_w]
    rfl
  refine take_ (i := 9) (N := some 14) (v := ?_) (a' := ?_) #[true, true, true, true, true, true, true, true, true, true, false, false] rfl rfl q13_ (fun _ _ _ h => h) (Or.inl ⟨q30_, ?_⟩) hHeld ?_ ?_
  rotate_left
  · rintro w' ⟨s0, s1, s2, s3, s4, s5, s6⟩
    go_simp
    with_reducible rfl
  rotate_left
  · simp only [Act.put, List.setIfInBounds_toArray, List.set_cons_zero, List.set_cons_succ, i64_w, i32_w]
    rfl
  refine one_ (i := 10) (N := some 3) #[true, true, true, true, true, true, true, true, true, true, true, false] rfl rfl q13_ q14_ (fun K hK => ?_)
  refine value_ (w1 := ?_) (v := ?_) q30_ rfl ?_ ?_
  rotate_left 2
  · go_simp
    constructor
    · rfl
    · rfl
  refine hK.out _ _ ⟨((hA.drew.alloc _).cell 0).trans rfl, ((hA.drew.alloc _).cell 1).trans rfl, (World.cell?_alloc_lt w.drew _ (ad.add (i * 5)) hbl).trans n0, (World.cell?_alloc_lt w.drew _ ⟨(ad.add (i * 5)).block, (ad.add (i * 5)).off + 1, none⟩ hbl).trans n1, (World.cell?_alloc_lt w.drew _ ⟨(ad.add (i * 5)).block, (ad.add (i * 5)).off + 2, none⟩ hbl).trans n2, (World.cell?_alloc_lt w.drew _ ⟨(ad.add (i * 5)).block, (ad.add (i * 5)).off + 3, none⟩ hbl).trans n3, (World.cell?_alloc_lt w.drew _ ⟨(ad.add (i * 5)).block, (ad.add (i * 5)).off + 4, none⟩ hbl).trans n4⟩ (fun hHeld => ?_)
  clear hK K
  refine norm_ (a' := ?_) ?_ ?_
  rotate_left
  · show Act.put _ (some 3) _ = _
    simp only [Act.put, List.setIfInBounds_toArray, List.set_cons_zero, List.set_cons_succ, i64_w, i32_w]
    rfl
  refine last_ (i := 11) (N := none) #[true, true, true, true, true, true, true, true, true, true, true, true] rfl rfl q13_ q14_ (fun K hK => ?_)
  refine skip_ (w1 := ?_) q30_ rfl ?_ ?_
  rotate_left
  · go_simp
    rfl
  refine hK.out _ _ ?_
  clear hK K
  refine done_ q13_ ?_
  clear hHeld n0 n1 n2 n3 n4
  have c1 := (hA.cell 1).trans rfl
  have f1 := hA.free 1
  have hwE := HN.out
  obtain ⟨nd0, nc, nm, nt, nb⟩ := n
  have hbody : nb.size ≤ 134217728 := by
    have h1 := wt_one xs hi
    rw [← hwE] at h1
    have h2 := wt_split xs (i := 0) (j := i) (k := i + 1) q2_ q2_
    have h3 := wt_all xs (i + 1)
    simp only at h1
    omega
  have hA1 : At ((w.setCell ⟨g, 1, none⟩ (.int .i64 ((i + 1 : Nat) : Int))).alloc (.cells #[.int .i64 nd0, .int .i64 nc, .bool nm, .int .i64 nt, .string nb] 43)).drew g 75 #[.slice (some ad) xs.length c, .int .i64 ((i + 1 : Nat) : Int)] := ((hA.set 1 _).alloc _).drew
  have hG1 : w.grownBy ((w.setCell ⟨g, 1, none⟩ (.int .i64 ((i + 1 : Nat) : Int))).alloc (.cells #[.int .i64 nd0, .int .i64 nc, .bool nm, .int .i64 nt, .string nb] 43)).drew (some g) := grown_drew (grown_alloc (grown_set (grown_refl w _) 1 _) _)
  have hN1 : At ((w.setCell ⟨g, 1, none⟩ (.int .i64 ((i + 1 : Nat) : Int))).alloc (.cells #[.int .i64 nd0, .int .i64 nc, .bool nm, .int .i64 nt, .string nb] 43)).drew w.heap.size 43 #[.int .i64 nd0, .int .i64 nc, .bool nm, .int .i64 nt, .string nb] := by
    have := At.new (w.setCell ⟨g, 1, none⟩ (.int .i64 ((i + 1 : Nat) : Int))) 43 #[.int .i64 nd0, .int .i64 nc, .bool nm, .int .i64 nt, .string nb]
    have e : (w.setCell ⟨g, 1, none⟩ (.int .i64 ((i + 1 : Nat) : Int))).heap.size = w.heap.size := by simp [World.setCell]
    rw [e] at this
    exact this.drew
  have ei : ((i + 1 : Nat) : Int) = (i : Int) + 1 := by omega
  rw [ei] at hA1 hG1 hN1
  cases nm with
  | false =>
    have hnot : (!false) = true := rfl
    have hw : wrE xs (m + 1) i = (layS nc false nt nb, i + 1) := by rw [wrE, ← hwE]; rfl
    have HW := Lib.hid hw
    have HA1 := Lib.hid hA1
    have HG1 := Lib.hid hG1
    clear hw hwE HN hA1 hG1 hN1 ei
    go_wp2_with fail
    refine (lay_any nc false nt nb _ q2_).mono ?_
    rintro en w2 ⟨rfl, b2⟩
    go_wp2
    go_ret
    refine ⟨by rw [HW.out]; rfl, ?_, ?_⟩
    · rw [HW.out]
      exact (HA1.out.below b2 HA1.out.lt)
    · exact grown_trans HG1.out (grown_below b2 _)
  | true =>
    have hnot : (!true) = false := rfl
    have hw : wrE xs (m + 1) i = (layS nc true nt (wrK xs m (i + 1) nd0 ⟨#[]⟩).1, (wrK xs m (i + 1) nd0 ⟨#[]⟩).2) := by rw [wrE, ← hwE]; rfl
    have HW := Lib.hid hw
    have HA1 := Lib.hid hA1
    have HG1 := Lib.hid hG1
    have HN1 := Lib.hid hN1
    clear hw hwE HN hA1 hG1 hN1 ei
    go_wp2_with fail
    go_loopw [4] (fun v wr => ∃ (k j : Nat) (b : ByteArray), 2 * (xs.length - j) + 2 ≤ k ∧ k ≤ m ∧ j ≤ xs.length ∧ i < j ∧ Hid (wrK xs m (i + 1) nd0 ⟨#[]⟩ = wrK xs k j nd0 b) ∧ b.size ≤ wt xs 0 j ∧
        At wr g 75 #[.slice (some ad) xs.length c, .int .i64 (j : Nat)] ∧ At wr w.heap.size 43 #[.int .i64 nd0, .int .i64 nc, .bool true, .int .i64 nt, .string nb] ∧
        wr.ownsRow w.heap.size 5 1 v (bytesOf b).length (nums .u8 (bytesOf b)) ∧ w.grownBy wr (some g))
      (fun _ wr => xs.length - (intOf ((wr.cell? ⟨g, 1, none⟩).getD undef)).toNat)
    case atStart =>
      have ei : ((i + 1 : Nat) : Int) = (i : Int) + 1 := by omega
      exact ⟨m, i + 1, ⟨#[]⟩, q2_, Nat.le_refl _, q2_, q2_, rfl, Nat.zero_le _, by rw [ei]; exact HA1.out, HN1.out, own_nil _ _ _ _, HG1.out⟩
    case round =>
      obtain ⟨k, j, b, k1, k2, k3, k4, HK, k5, rA, rN, rO, rG⟩ := hrel
      obtain ⟨Ab, cb, rfl⟩ := own_slice rO
      obtain ⟨k, rfl⟩ : ∃ k', k = k' + 1 := ⟨k - 1, q2_⟩
      have zw : w.heap.size ≤ wr.heap.size := rG.size
      have zw0 : w0.heap.size ≤ w.heap.size := hB.size
      have hB2 : Below w0.heap.size w0 wr := below_grow hB rG zw0 hg
      have g0 := (rA.cell 0).trans rfl
      have g1 := (rA.cell 1).trans rfl
      have d0 := (rN.cell 0).trans rfl
      have j0 : (0 : Int) ≤ (j : Int) := by omega
      by_cases hj : j < xs.length
      · obtain ⟨ad', e', m0, m1, m2, m3, m4⟩ := node_at (Kd.C_below HR.out hB2) j hj
        obtain rfl : ad = ad' := Option.some.inj e'
        obtain ⟨dj, hdj⟩ : ∃ dj, dj = (nd xs j).1 := ⟨_, rfl⟩
        rw [← hdj] at m0
        have HDJ := Lib.hid hdj
        have j1 : (j : Int) < (xs.length : Int) := by omega
        clear hdj m1 m2 m3 m4 e'
        by_cases hdp : nd0 < dj
        · have hst : wrK xs (k + 1) j nd0 b = wrK xs k (wrE xs k j).2 nd0 (b ++ (wrE xs k j).1) := by rw [wrK, if_pos ⟨hj, by rw [← HDJ.out]; exact hdp⟩]
          have hwz := (wr_size xs HM.out k).1 j hj
          obtain ⟨kk, hkk⟩ : ∃ kk, k = kk + 1 := ⟨k - 1, q2_⟩
          have hgt := wrE_gt xs kk j
          rw [← hkk] at hgt
          have HST := Lib.hid hst
          have hdec : decide (nd0 < dj) = true := decide_eq_true hdp
          have hdec2 : decide ((j : Int) < (xs.length : Int)) = true := decide_eq_true j1
          have hdec3 : decide (j < xs.length) = true := decide_eq_true hj
          clear hst hkk
          go_wp2_with fail
          go_quiet (fail)
          go_wp2_with fail
          refine (IH.out k q2_ j g _ hj q2_ (pw_below_drewN hB2 _) hg (rA.drewN _)).mono ?_
          rintro en w2 ⟨rfl, a2, q2⟩
          have rO2 : w2.ownsRow w.heap.size 5 1 (.slice Ab (bytesOf b).length cb) (bytesOf b).length (nums .u8 (bytesOf b)) := own_other (pw_own_below rO (pw_below_drewN (Below.refl _ _) _)) q2 (by right; exact fun e => own_ne rO rA q14_ e.symm)
          have rN2 := (rN.drewN _).kept q2 (by have := hlt; omega)
          have rG2 : w.grownBy w2 (some g) := grown_trans (b := wr) rG ⟨q2.os, q2.tape, q2.output, q2.size, q2.block⟩
          have hcur : Hid (wr.cell? ⟨g, 1, none⟩ = some (.int .i64 (j : Nat))) := g1
          have hsz2 := HM
          clear g0 g1 d0 m0 rA rN rO rG q2 hB2
          have zw2 : w.heap.size ≤ w2.heap.size := rG2.size
          have hlen : (bytesOf b).length + (wrE xs k j).1.size ≤ 140737488355328 := by
            rw [bytesOf_length]
            have h3 := wt_all xs (wrE xs k j).2
            have h4 := wt_split xs (i := 0) (j := j) (k := (wrE xs k j).2) q2_ hwz.1
            omega
          go_wp2_with (at_builtin; go_must (refine print_append_str (w0 := w2) w.heap.size rfl (.tmp 58) (.tmp 60) 39 9 5 rfl Tryd.underlying39 Tryd.underlying9 infoU8 (.slice Ab (bytesOf b).length cb) (bytesOf b) (wrE xs k j).1 rfl rfl rO2 (Below.refl _ _) zw2 hlen ?_); intro v1 w3 hO3 hb3 hg3)
          rw [← bytesOf_append] at hO3
          have rA3 : At w3 g 75 #[.slice (some ad) xs.length c, .int .i64 ((wrE xs k j).2 : Nat)] := (hg3.block _ a2.lt (own_ne rO2 a2 q14_)).trans a2
          have rN3 : At w3 w.heap.size 43 #[.int .i64 nd0, .int .i64 nc, .bool true, .int .i64 nt, .string nb] := (hg3.block _ rN2.lt (own_ne rO2 rN2 q14_)).trans rN2
          have rG3 : w.grownBy w3 (some g) := ⟨hg3.os.trans rG2.os, hg3.tape.trans rG2.tape, hg3.output.trans rG2.output, Nat.le_trans rG2.size hg3.size, fun q hq hn => (hg3.block q q2_ (fun e => by have := own_base rO2 q e.symm; omega)).trans (rG2.block q hq hn)⟩
          have hnew := (rA3.cell 1).trans rfl
          clear a2 rO2 rN2 rG2 hb3 hg3
          go_wp2
          go_roundw
          case rel =>
            refine ⟨k, (wrE xs k j).2, b ++ (wrE xs k j).1, q2_, q2_, hwz.2.1, q2_, ?_, ?_, rA3, rN3, hO3, rG3⟩
            · unfold Hid
              rw [HK.out, HST.out]
            · rw [ByteArray.size_append]
              have h4 := wt_split xs (i := 0) (j := j) (k := (wrE xs k j).2) q2_ hwz.1
              omega
          case measure =>
            rw [hnew, hcur.out]
            simp [intOf]
            omega
        · have hst : wrK xs (k + 1) j nd0 b = (b, j) := by rw [wrK, if_neg (fun h => hdp (by rw [HDJ.out]; exact h.2))]
          have HST := Lib.hid hst
          have hdec : decide (nd0 < dj) = false := decide_eq_false hdp
          have hdec2 : decide ((j : Int) < (xs.length : Int)) = true := decide_eq_true j1
          have hdec3 : decide (j < xs.length) = true := decide_eq_true hj
          clear hst
          have hcv : ∀ q, (convert 39 9 (.slice Ab (bytesOf b).length cb)).run Tryd.prog (wr.drewN q) = .ok (.string b) (wr.drewN q) := by
            intro q
            have h := own_string (P := Tryd.prog) (src := 39) (dst := 9) (e := 5) Tryd.underlying39 Tryd.underlying5 Tryd.underlying9 (pw_own_below rO (pw_below_drewN (Below.refl _ _) q))
            rwa [str_bytes] at h
          have hbs : b.size ≤ 4294967295 := by
            have h3 := wt_all xs j
            omega
          have RA := Lib.hid rA
          have RG := Lib.hid rG
          clear rA rG rO
          go_wp2_with fail
          go_quiet (fail)
          have d1 := (rN.cell 1).trans rfl
          have d3 := (rN.cell 3).trans rfl
          go_wp2_with fail
          refine (lay_any nc true nt b _ hbs).mono ?_
          rintro en w2 ⟨rfl, b2⟩
          go_wp2
          go_ret
          refine ⟨by rw [HW.out, HK.out, HST.out]; rfl, ?_, ?_⟩
          · rw [HW.out, HK.out, HST.out]
            exact (RA.out.drewN _).below b2 (RA.out.drewN _).lt
          · exact grown_trans (b := wr) RG.out ⟨b2.os, b2.tape, b2.output, b2.size, fun q hq hn => b2.block q hq⟩
      · have hst : wrK xs (k + 1) j nd0 b = (b, j) := by rw [wrK, if_neg (fun h => hj h.1)]
        have HST := Lib.hid hst
        have hdec2 : decide ((j : Int) < (xs.length : Int)) = false := decide_eq_false q2_
        have hdec3 : decide (j < xs.length) = false := decide_eq_false hj
        clear hst
        have hcv : ∀ q, (convert 39 9 (.slice Ab (bytesOf b).length cb)).run Tryd.prog (wr.drewN q) = .ok (.string b) (wr.drewN q) := by
          intro q
          have h := own_string (P := Tryd.prog) (src := 39) (dst := 9) (e := 5) Tryd.underlying39 Tryd.underlying5 Tryd.underlying9 (pw_own_below rO (pw_below_drewN (Below.refl _ _) q))
          rwa [str_bytes] at h
        have hbs : b.size ≤ 4294967295 := by
          have h3 := wt_all xs j
          omega
        have RA := Lib.hid rA
        have RG := Lib.hid rG
        clear rA rG rO
        go_wp2_with fail
        go_quiet (fail)
        have d1 := (rN.cell 1).trans rfl
        have d3 := (rN.cell 3).trans rfl
        go_wp2_with fail
        refine (lay_any nc true nt b _ hbs).mono ?_
        rintro en w2 ⟨rfl, b2⟩
        go_wp2
        go_ret
        refine ⟨by rw [HW.out, HK.out, HST.out]; rfl, ?_, ?_⟩
        · rw [HW.out, HK.out, HST.out]
          exact (RA.out.drewN _).below b2 (RA.out.drewN _).lt
        · exact grown_trans (b := wr) RG.out ⟨b2.os, b2.tape, b2.output, b2.size, fun q hq hn => b2.block q hq⟩
end Go.Proofs.YtogjljpncdmlkaaDoor.W
end
