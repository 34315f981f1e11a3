/- Walk of (*scanner).element: what it comes by is appended to the scanner's list; where the element ends, or a panic that bears the error and its place. -/
import Derived.Test.YtbgmnfkfbiemaaaBBn
import Derived.Test.YtbgmnfkfbiemaaaMa
import Derived.Deep.AppendLies
import Derived.Deep.RegionLaw
namespace Go.Proofs.Ytbgmnfkfbiemaaa.W
open Go.RowKit
set_option linter.unusedVariables false
set_option linter.unusedSimpArgs false

theorem infoFound : (Try.prog.info? 67).map (fun i => (i.zero, i.size, i.bytes)) = some (some (.agg #[.int .i64 0, .int .i64 0, .int .i64 0, .bool false, .int .i64 0, .int .i64 0, .int .i64 0]), 7, 56) := by kernel_rfl

/-- The reader of elements within m rounds, as the calls that it makes of itself are met. -/
def Reads (s : ByteArray) (m : Nat) : Prop :=
  ∀ (base g : Nat) (l : List Fnd) (p e d : Int) (w : World), 0 ≤ p → e ≤ (s.size : Int) → Scan base g s l w → base ≤ w.heap.size → base ≤ g → (l.length : Int) + (e - p) ≤ 4194304 → 2 * (e - p) + 1 ≤ m → 1 ≤ m → 0 ≤ d → d ≤ 100 →
    Calls Try.prog 22 #[.pointer (some ⟨g, 0, none⟩), .int .i64 p, .int .i64 e, .int .i64 d] w fun en w' => ElemEnd (elemF s m p e d) base g s l w en w'

theorem element_no (base g : Nat) (s : ByteArray) (l : List Fnd) (p e d : Int) (w : World) (h0 : 0 ≤ p) (he : e ≤ (s.size : Int)) (hs : s.size ≤ 4194304)
    (hS : Scan base g s l w) (hb : base ≤ w.heap.size) {c q : Int} (hr : bnd s p e d = .error (c, q)) (m : Nat) :
    Calls Try.prog 22 #[.pointer (some ⟨g, 0, none⟩), .int .i64 p, .int .i64 e, .int .i64 d] w fun en w' => ElemEnd (elemF s (m + 1) p e d) base g s l w en w' := by
  have HF : Hid (elemF s (m + 1) p e d = ([], .error (c, q))) := by unfold Hid; rw [elemF, hr]
  obtain ⟨v, hA, hO⟩ := hS
  have hg := hA.lt
  have H := Lib.hid hr
  clear hr
  go_enter Try.func22, Try.ntmps22
  go_wp2_with fail
  refine (bound_err g s p e d _ h0 he (by omega) ?_ hg H.out).mono ?_
  · exact (hA.cell 0).trans rfl
  rintro en w1 ⟨rfl, hb1⟩
  refine ⟨rfl, ?_⟩
  rw [HF.out]
  exact ⟨rfl, ⟨v, hA.below hb1 hg, by simpa using own_below hO hb1 (Nat.le_refl _)⟩, hb1.mono hb, Keeps.of_below hb1⟩

set_option maxRecDepth 100000 in
set_option maxHeartbeats 1000000 in
theorem element_yes (base g : Nat) (s : ByteArray) (l : List Fnd) (p e d : Int) (w : World) (h0 : 0 ≤ p) (he : e ≤ (s.size : Int)) (hs : s.size ≤ 4194304)
    (hS : Scan base g s l w) (hb : base ≤ w.heap.size) (hgb : base ≤ g) (hl : (l.length : Int) + (e - p) ≤ 4194304) (hd0 : 0 ≤ d) (hd1 : d ≤ 100) {h : Hd} (hr : bnd s p e d = .ok h) (m : Nat) (hm : 2 * (e - p) ≤ m) (ih : ∀ k, k < m → Reads s k) :
    Calls Try.prog 22 #[.pointer (some ⟨g, 0, none⟩), .int .i64 p, .int .i64 e, .int .i64 d] w fun en w' => ElemEnd (elemF s (m + 1) p e d) base g s l w en w' := by
  obtain ⟨hb1, hb2⟩ := bnd_ok hr
  obtain ⟨hd64, -, k3, k4, k5, k6, -⟩ := hdr_ok hb1
  clear hb1
  obtain ⟨v, hA, hO⟩ := hS
  have hg := hA.lt
  obtain ⟨i0, hi, hz0, hz1, hz2⟩ := info_parts infoFound
  have H := Lib.hid hr
  have IH := Lib.hid ih
  clear hr ih
  go_enter Try.func22, Try.ntmps22
  go_wp2_with fail
  refine (bound_ok g s p e d _ h0 he (by omega) ?_ hg H.out).mono ?_
  · exact (hA.cell 0).trans rfl
  rintro en w1 ⟨rfl, hb1⟩
  have A1 := hA.below hb1 hg
  go_wp2_with fail
  have z1 : w.heap.size ≤ w1.heap.size := hb1.size
  have K1 := Keeps.of_below (g := g) hb1
  have O1 := own_below hO hb1 (Nat.le_refl _)
  refine gen1 (G := fun W => Code.wp _ _ _ _ W) fun W hB hz k1 => ?_
  have A2 := A1.below hB A1.lt
  have O2 := own_below O1 hB (Nat.le_refl _)
  have K2 := K1.trans (Keeps.of_below (g := g) hB)
  have B2 : Below w.heap.size w W := hb1.trans (hB.mono z1)
  have c1 := (A2.cell 1).trans rfl
  have c0 : ∀ i, W.cell? ⟨w1.heap.size, i, none⟩ = _ := k1.cell
  clear A1 O1 K1 hb1
  have hne : w1.heap.size ≠ g := by have := hg; omega
  have hne2 : g < W.heap.size := A2.lt
  have hlt : w1.heap.size < W.heap.size := by omega
  have hnw : ∀ cs t, At (W.alloc (.cells cs t)) W.heap.size t cs := fun cs t => At.new W t cs
  clear hz hA hO
  go_region_law (refine step_append_lies _ rfl (.tmp 21) (.tmp 26) 57 rfl base 67 i0 _ 7 56 Try.underlying57 hi hz0 hz1 hz2 rfl (by decide) v l.length (fndRow l) (by simp [Act.eval, Act.put]) (by exact O2.alloc _) ⟨W.heap.size, 0, none⟩ 1 1 (fndCells ⟨p, d, h⟩) (by simp [Act.eval, Act.put]) rfl (by exact World.news_of_block (hnw _ _)) (by simp [fndCells, Value.oneCell']) (by decide) (by unfold maxLen; omega) (by omega) (by simp; omega) (W.heap.size + 1) (by simp) ?_; intro gr cp w3 hO3 hgr hor hlt3; have A3 := At.lit A2 O2 hgr (by decide); have s1 := (A3.cell 1).trans rfl; have s2 := A3.free 1)
  all_goals
    have A4 := A3.set 1 (Value.slice (some ⟨gr, 0, none⟩) (l.length + 1) cp)
    have O4 : (w3.setCell ⟨g, 1, none⟩ (.slice (some ⟨gr, 0, none⟩) (l.length + 1) cp)).ownsRow base 67 7 (.slice (some ⟨gr, 0, none⟩) (l.length + 1) cp) (l ++ [(⟨p, d, h⟩ : Fnd)]).length (fndRow (l ++ [(⟨p, d, h⟩ : Fnd)])) := by
      rw [fndRow_snoc, List.length_append]
      exact own_set hO3 A3 (by decide) _
    have k5 := (k1.lit O2 hgr (by decide)).far (p := ⟨g, 1, none⟩) hne (Value.slice (some ⟨gr, 0, none⟩) (l.length + 1) cp)
    have B4 : Below base w (w3.setCell ⟨g, 1, none⟩ (.slice (some ⟨gr, 0, none⟩) (l.length + 1) cp)) :=
      ((((B2.mono hb).alloc (by omega) _).drew).grown hgr (by simp; omega) (own_base O2)).setCell hgb _
    have K4 : Keeps g w (w3.setCell ⟨g, 1, none⟩ (.slice (some ⟨gr, 0, none⟩) (l.length + 1) cp)) := ((K2.alloc _).drew.grown (O2.alloc _).drew hgr).setScan 1 _
    clear s1 s2 A3 hO3 hgr hor hlt3 c1 c0 A2 O2 K2 B2 hB k1 hnw
    generalize w3.setCell ⟨g, 1, none⟩ (.slice (some ⟨gr, 0, none⟩) (l.length + 1) cp) = W4 at A4 O4 k5 B4 K4 ⊢
    have cH : ∀ i, W4.cell? ⟨w1.heap.size, i, none⟩ = _ := k5.cell
    have S4 : Scan base g s (l ++ [⟨p, d, h⟩]) W4 := ⟨_, A4, O4⟩
    clear A4 O4 k5
    cases hmd : h.made with
    | false =>
      have HF : Hid (elemF s (m + 1) p e d = ([⟨p, d, h⟩], .ok (p + h.size + h.len))) := by unfold Hid; rw [elemF, H.out]; simp only [hmd]; rfl
      go_wp2
      go_ret
      rw [HF.out]
      exact ⟨rfl, S4, B4, K4⟩
    | true =>
      have HF : Hid (elemF s (m + 1) p e d = (⟨p, d, h⟩ :: (elemsF s m (p + h.size) (p + h.size + h.len) (d + 1)).1, (elemsF s m (p + h.size) (p + h.size + h.len) (d + 1)).2)) := by
        unfold Hid; rw [elemF, H.out]; simp only [hmd]; rfl
      have hst : 2 * ((p + h.size + h.len) - (p + h.size)) + 2 ≤ (m : Int) := by omega
      go_wp2
      go_loopw [10] (fun a wr => ∃ (x : Int) (ls : List Fnd) (k : Nat), a = .int .i64 x ∧ p + h.size ≤ x ∧ x ≤ p + h.size + h.len ∧ (ls.length : Int) ≤ x - (p + h.size) ∧ 2 * ((p + h.size + h.len) - x) + 2 ≤ (k : Int) ∧ k ≤ m ∧
          Hid (elemsF s m (p + h.size) (p + h.size + h.len) (d + 1) = (ls ++ (elemsF s k x (p + h.size + h.len) (d + 1)).1, (elemsF s k x (p + h.size + h.len) (d + 1)).2)) ∧
          Scan base g s ((l ++ [⟨p, d, h⟩]) ++ ls) wr ∧ Below base w wr ∧ Keeps g w wr)
        (fun a _ => ((p + h.size + h.len) - intOf a).toNat)
      case atStart => exact ⟨p + h.size, [], m, rfl, by omega, by omega, by simp, hst, Nat.le_refl _, by simp [Hid], by simpa using S4, B4, K4⟩
      case round =>
        obtain ⟨x, ls, k, rfl, q1, q2, q3, q4, q5, q6, q7, q8, q9⟩ := hrel
        clear cH S4 B4 K4 hst
        obtain ⟨k, rfl⟩ : ∃ j, k = j + 1 := ⟨k - 1, by omega⟩
        by_cases hx : x < p + h.size + h.len
        · have Q7 := q7
          obtain ⟨v7, a7, o7⟩ := q7
          have hg7 := a7.lt
          clear a7 o7
          have hst := elemsF_step (s := s) (k := k) (d := d + 1) hx
          have HB : Hid (base ≤ wr.heap.size) := Nat.le_trans hb q8.size
          cases hre : (elemF s k x (p + h.size + h.len) (d + 1)).2 with
          | error y =>
            obtain ⟨c, q⟩ := y
            rw [hre] at hst
            have HS := Lib.hid hst
            have HR := Lib.hid hre
            clear hst hre
            go_wp2_with fail
            refine (IH.out k (by omega) base g _ x (p + h.size + h.len) (d + 1) wr (by omega) (by omega) Q7 HB.out hgb (by simp only [List.length_append, List.length_cons, List.length_nil]; omega) (by omega) (by omega) (by omega) (by omega)).mono ?_
            intro en w5 hE
            obtain ⟨e1, e2, e3, e4⟩ := hE
            rw [HR.out] at e1
            subst e1
            refine ⟨rfl, ?_⟩
            rw [HF.out, q6.out, HS.out]
            exact ⟨rfl, by simpa using e2, q8.trans e3, q9.trans e4⟩
          | ok q =>
            rw [hre] at hst
            have hok := (elem_ok s k).1 x _ _ q hre
            have HS := Lib.hid hst
            have HR := Lib.hid hre
            clear hst hre
            go_wp2_with fail
            refine (IH.out k (by omega) base g _ x (p + h.size + h.len) (d + 1) wr (by omega) (by omega) Q7 HB.out hgb (by simp only [List.length_append, List.length_cons, List.length_nil]; omega) (by omega) (by omega) (by omega) (by omega)).mono ?_
            intro en w5 hE
            obtain ⟨e1, e2, e3, e4⟩ := hE
            rw [HR.out] at e1
            subst e1
            go_wp2_with fail
            go_roundw
            case rel =>
              refine ⟨q, ls ++ (elemF s k x (p + h.size + h.len) (d + 1)).1, k, rfl, by omega, by omega, by rw [List.length_append]; omega, by omega, by omega, ?_, by simpa using e2, q8.trans e3, q9.trans e4⟩
              unfold Hid
              rw [q6.out, HS.out, List.append_assoc]
            case measure => simp [intOf]; omega
        · have hst := elemsF_stop (s := s) (k := k) (d := d + 1) hx
          have HS := Lib.hid hst
          clear hst
          go_wp2
          go_ret
          rw [HF.out, q6.out, HS.out]
          exact ⟨rfl, by simpa using q7, q8, q9⟩

/-- THE READER OF AN ELEMENT, by the number of rounds. -/
theorem element_reads (s : ByteArray) (hs : s.size ≤ 4194304) : ∀ m, Reads s m := by
  intro m
  induction m using Nat.strongRecOn with
  | _ m ih =>
    intro base g l p e d w h0 he hS hb hgb hl hm h1 hd0 hd1
    obtain ⟨k, rfl⟩ : ∃ j, m = j + 1 := ⟨m - 1, by omega⟩
    cases hr : bnd s p e d with
    | error x => obtain ⟨c, q⟩ := x; exact element_no base g s l p e d w h0 he hs hS hb hr k
    | ok h => exact element_yes base g s l p e d w h0 he hs hS hb hgb hl hd0 hd1 hr k (by omega) (fun j hj => ih j (by omega))
end Go.Proofs.Ytbgmnfkfbiemaaa.W
