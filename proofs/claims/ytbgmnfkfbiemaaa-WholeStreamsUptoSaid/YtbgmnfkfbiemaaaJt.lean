/- Texts of this session in one: Sp, Tr -/
import Derived.Test.YtbgmnfkfbiemaaaMa
import Derived.Test.YtbgmnfkfbiemaaaBCa
import Derived.Deep.AppendLies
import Derived.Deep.RegionHeld3
import Derived.Deep.RegionLaw
import Derived.BigRegion
import Derived.Deep.QuietTactic
import Derived.Test.YtbgmnfkfbiemaaaWLast
import Derived.Test.YtbgmnfkfbiemaaaWTab
import Derived.BigQuiet
import Derived.Test.YtbgmnfkfbiemaaaBEl
/-! ## Walk of ber.Split: the elements that stand one behind the other, or the first fault and its place. -/
namespace Go.Proofs.Ytbgmnfkfbiemaaa.W
open Go.RowKit Go.Proofs.YtbgmnfkfbiemaaaW.PrintWords Go.Proofs.YtbgmnfkfbiemaaaW.PrintLast
set_option linter.unusedVariables false
set_option linter.unusedSimpArgs false

def optErr : Option (Int × Int) → Ending
  | none => .returned (.tuple #[])
  | some (c, q) => .panicked [{ v := .iface 61 (.agg #[.int .i64 c, .int .i64 q]), recovered := false }]

end Go.Proofs.Ytbgmnfkfbiemaaa.W

/-! ## Walk of ber.Tree: the tree of one whole element, or the first fault and its place. -/
namespace Go.Proofs.Ytbgmnfkfbiemaaa.W
open Go.RowKit Go.Proofs.YtbgmnfkfbiemaaaW.PrintWords Go.Proofs.YtbgmnfkfbiemaaaW.PrintLast
set_option linter.unusedVariables false
set_option linter.unusedSimpArgs false

/-- How the reader of a tree ends. -/
def treeErr (s : ByteArray) : Except (Int × Int) Int → Option (Int × Int)
  | .error x => some x
  | .ok q => if q < (s.size : Int) then some (27, q) else none
theorem treeR_eq (s : ByteArray) (l : List Fnd) (r : Except (Int × Int) Int) : treeR s (l, r) = match treeErr s r with
    | some x => ([], x.1, x.2)
    | none => (l.map (nodeOf s), 0, 0) := by
  cases r with
  | error x => rfl
  | ok q =>
    show (if q < (s.size : Int) then _ else _) = match (if q < (s.size : Int) then some ((27 : Int), q) else none) with
      | some x => ([], x.1, x.2)
      | none => (l.map (nodeOf s), 0, 0)
    by_cases c : q < (s.size : Int)
    · rw [if_pos c, if_pos c]
    · rw [if_neg c, if_neg c]
theorem treeErr_err {s : ByteArray} {c q : Int} (h : treeErr s (walkS s).2 = some (c, q)) : 20 ≤ c ∧ c ≤ 27 := by
  cases hr : (walkS s).2 with
  | error x =>
    rw [hr] at h
    injection h with h
    subst h
    have := (elem_err s (2 * s.size + 1)).1 0 s.size 1 c q (by omega) (by omega) hr
    omega
  | ok k =>
    rw [hr] at h
    unfold treeErr at h
    simp only at h
    split at h
    · injection h with h; injection h with h1 h2; omega
    · cases h

theorem TreeC_any (base gb gs : Nat) (s : ByteArray) (w : World) (hs : s.size ≤ 2097152) (aB : At w gb 9 #[.string s]) (hS : Scan base gs s [] w) (hb : base ≤ w.heap.size) (hgb : base ≤ gs) :
    Calls Try.prog 21 #[.pointer (some ⟨gs, 0, none⟩), .pointer (some ⟨gb, 0, none⟩)] w fun en w1 => en = optErr (treeErr s (walkS s).2) ∧ Scan base gs s (walkS s).1 w1 ∧ Below base w w1 ∧ Keeps gs w w1 := by
  have hne : gb ≠ gs := by obtain ⟨v, a, _⟩ := hS; exact aB.ne a (by decide)
  have he := element_reads s (by omega) (2 * s.size + 1) base gs [] 0 s.size 1 w (by omega) (by omega) hS hb hgb (by simp; omega) (by omega) (by omega) (by omega) (by omega)
  have hb0 := (aB.cell 0).trans rfl
  cases hr : (walkS s).2 with
  | error x =>
    obtain ⟨c, q⟩ := x
    have HW := Lib.hid hr
    have HE := Lib.hid he
    clear hr he hS
    go_enter Try.func21, Try.ntmps21
    go_wp2_with fail
    refine HE.out.mono ?_
    rintro en w1 ⟨h1, h2, h3, h4⟩
    have h := HW.out
    unfold walkS at h
    rw [h] at h1
    subst h1
    exact ⟨rfl, rfl, h2, h3, h4⟩
  | ok q =>
    have HW := Lib.hid hr
    have HE := Lib.hid he
    clear hr he hS
    go_enter Try.func21, Try.ntmps21
    go_wp2_with fail
    refine HE.out.mono ?_
    rintro en w1 ⟨h1, h2, h3, h4⟩
    have h := HW.out
    unfold walkS at h
    rw [h] at h1
    subst h1
    have hb1 := ((h4 _ _ _ aB hne (by decide)).cell 0).trans rfl
    have H2 := Lib.hid h2
    have H4 := Lib.hid h4
    have H5 := Lib.hid h
    clear h2 h4 h hb0
    by_cases c : q < (s.size : Int)
    · go_wp2_with fail
      refine ⟨rfl, ?_, H2.out, h3, H4.out⟩
      show _ = optErr (if q < (s.size : Int) then some ((27 : Int), q) else none)
      rw [if_pos c]
      rfl
    · go_wp2_with fail
      go_end0
      refine ⟨?_, H2.out, h3, H4.out⟩
      show _ = optErr (if q < (s.size : Int) then some ((27 : Int), q) else none)
      rw [if_neg (by omega)]
      rfl

theorem fndRow_at : ∀ (l : List Fnd) (k j : Nat) (u : Value), k < l.length → (fndCells (l.getD k ⟨0, 0, ⟨0, false, 0, 0, 0⟩⟩))[j]? = some u → (fndRow l)[k * 7 + j]? = some u := by
  intro l
  induction l with
  | nil => intro k j u h; simp at h
  | cons x l ih =>
    intro k j u hk h
    have hc : ∀ y : Fnd, (fndCells y).length = 7 := fun _ => rfl
    cases k with
    | zero =>
      simp only [fndRow, List.flatMap_cons, Nat.zero_mul, Nat.zero_add]
      have hj : j < 7 := by have := (List.getElem?_eq_some_iff.1 h).1; rwa [hc] at this
      rw [List.getElem?_append_left (by rw [hc]; exact hj)]
      exact h
    | succ k =>
      simp only [fndRow, List.flatMap_cons]
      rw [List.getElem?_append_right (by rw [hc]; omega), hc]
      have e : (k + 1) * 7 + j - 7 = k * 7 + j := by omega
      rw [e]
      exact ih k j u (by simpa using hk) (by simpa using h)
/-- What the scanner has come by, read cell by cell. -/
theorem fnd_cells {w : World} {base : Nat} {v : Value} {l : List Fnd} (h : w.ownsRow base 67 7 v l.length (fndRow l)) (hp : 0 < l.length) : ∃ g cap, v = .slice (some ⟨g, 0, none⟩) l.length cap ∧
    ∀ k j u, k < l.length → (fndCells (l.getD k ⟨0, 0, ⟨0, false, 0, 0, 0⟩⟩))[j]? = some u → w.cell? ⟨g, k * 7 + j, none⟩ = some u := by
  rcases h.2 with ⟨_, h1⟩ | ⟨g, cap, cur, h1, h2, h3, h4, h5, h6, h7⟩
  · omega
  · refine ⟨g, cap, h1, fun k j u hk hu => ?_⟩
    have hr := fndRow_at l k j u hk hu
    have hj : j < 7 := (List.getElem?_eq_some_iff.1 hu).1
    rw [← h7, List.getElem?_take, if_pos (by omega), Array.getElem?_toList] at hr
    simp [World.cell?, h3]
    exact hr
theorem infoNode : (Try.prog.info? 40).map (fun i => (i.zero, i.size, i.bytes)) = some (some (.agg #[.int .i64 0, .int .i64 0, .bool false, .int .i64 0, .string ⟨#[]⟩]), 5, 48) := by kernel_rfl

theorem R_at0 {α : Type} (d : Kd α) {W : World} {base b c : Nat} {e : TypeId} {cs : Array Value} {ok : Nat → Prop} (h : At W b e cs) (hc : cs.size = c * d.sz) (hb : base ≤ b) (h63 : c ≤ 9223372036854775807) (hok : ok b) :
    Kd.R d e W base ok (.slice (some ⟨b, 0, none⟩) 0 c) ([] : List α) := by
  refine ⟨fun k hk => ?_, [], ⟨by simp, .inr ⟨b, c, cs, rfl, hb, h, Nat.zero_le _, h63, hc, by simp⟩⟩, by simp, fun j p h => by simp at h⟩
  simp only [Value.ownBlock] at hk
  injection hk with hk
  exact hk ▸ hok

set_option maxRecDepth 100000 in
set_option maxHeartbeats 4000000 in
/-- WHAT Tree ANSWERS. -/
theorem Tree_any (s : ByteArray) (w : World) (hs : s.size ≤ 2097152) :
    Calls Try.prog 10 #[.string s] w fun en w' => ∃ v0_ : Value, en = .returned (.tuple #[v0_, .int .i64 (treeS s).2.1, .int .i64 (treeS s).2.2]) ∧ Kd.R kNode 40 w' w.heap.size (fun _ => True) v0_ (treeS s).1 ∧ Below w.heap.size w w' := by
  have hmf : ∀ (fn : Fn) (first cap : Array Value) (w : World), (Instr.makeFunc fn first cap).run Try.prog w = .ok (.func fn first cap) w := fun _ _ _ _ => rfl
  obtain ⟨l, hl⟩ : ∃ l, (walkS s).1 = l := ⟨_, rfl⟩
  obtain ⟨r, hr⟩ : ∃ r, treeErr s (walkS s).2 = r := ⟨_, rfl⟩
  obtain ⟨tr, htr⟩ : ∃ tr, treeS s = tr := ⟨_, rfl⟩
  have htr2 : tr = match (generalizing := false) r with | some x => ([], x.1, x.2) | none => (l.map (nodeOf s), 0, 0) := by
    rw [← htr, ← hr, ← hl]
    unfold treeS
    rw [← treeR_eq]
  have HC : ∀ (W : World) (base B gb gs : Nat), base ≤ W.heap.size → base ≤ gs → At W gb 9 #[.string s] → At W gs 59 #[.string s, .slice none 0 0] → At W B 61 #[.int .i64 0, .int .i64 0] →
      Calls Try.prog 21 #[.pointer (some ⟨gs, 0, none⟩), .pointer (some ⟨gb, 0, none⟩)] W (RunEnd r B fun w1 => Scan base gs s l w1 ∧ Below base W w1 ∧ At w1 gb 9 #[.string s] ∧ At w1 B 61 #[.int .i64 0, .int .i64 0]) := by
    intro W base B gb gs hb hgs a1 a2 a3
    refine (TreeC_any base gb gs s W hs a1 ⟨_, a2, own_nil W base 67 7⟩ hb hgs).mono ?_
    rintro en w1 ⟨h1, h2, h3, h4⟩
    rw [hr] at h1
    rw [hl] at h2
    refine ⟨?_, h4 _ _ _ a3 (a3.ne a2 (by decide)) (by decide), h2, h3, h4 _ _ _ a1 (a1.ne a2 (by decide)) (by decide), h4 _ _ _ a3 (a3.ne a2 (by decide)) (by decide)⟩
    subst h1
    cases r with
    | none => rfl
    | some x => obtain ⟨c, q⟩ := x; rfl
  have HCE : Hid (∀ c q, r = some (c, q) → 20 ≤ c ∧ c ≤ 27) := fun c q h => treeErr_err (s := s) (by rw [hr]; exact h)
  have HBD : Hid (∀ x ∈ l, 0 ≤ x.at_ ∧ 0 ≤ x.head.len ∧ 2 ≤ x.head.size ∧ x.at_ + x.head.size + x.head.len ≤ (s.size : Int)) := fun x hx => (elem_in s (2 * s.size + 1)).1 0 s.size 1 x (by rw [← hl] at hx; exact hx)
  have HLN : Hid (r = none → l.length ≤ s.size) := by
    intro h
    rw [← hr] at h
    cases hw : (walkS s).2 with
    | error x => rw [hw] at h; cases h
    | ok q =>
      have := (elem_ok s (2 * s.size + 1)).1 0 s.size 1 q hw
      have hl' : (elemF s (2 * s.size + 1) 0 s.size 1).1 = l := hl
      rw [hl'] at this
      omega
  rw [htr]
  have HSP := Lib.hid htr2
  have HC := Lib.hid HC
  have HL := Lib.hid hl
  clear htr htr2 hr hl
  go_enter Try.func10, Try.ntmps10
  go_wp2_with fail
  refine gen2 (G := fun W => Calls _ _ _ W _) fun W hB hz k1 k2 => ?_
  have aF := At.new W 61 #[.int .i64 0, .int .i64 0]
  refine (caught_TreeC _ _ r _ (HC.out _ w.heap.size _ _ _ (by simp; omega) (by omega) (k1.alloc _) (k2.alloc _) aF)).mono ?_
  rintro en w2 ⟨rfl, w1, ⟨⟨v, m1, m2⟩, m3, m4, m5⟩, hg⟩
  have zw : W.heap.size + 1 ≤ w1.heap.size := by have := m3.size; simpa using this
  obtain ⟨A, cp, rfl⟩ := own_slice m2
  have n1 := m1.kept hg (by omega)
  have n4 := m4.kept hg (by omega)
  have n2 : w2.ownsRow w.heap.size 67 7 (.slice A l.length cp) l.length (fndRow l) := own_other m2 hg (by right; exact fun e => own_ne m2 m5 (by decide) e.symm)
  have B2 : Below w.heap.size w w2 := below_kept ((hB.alloc (by omega) _).trans m3) hg (by omega) (by omega)
  have hz2 : w.heap.size ≤ w2.heap.size := B2.size
  clear m1 m2 m3 m4 m5 hg k1 k2 aF hB HC hz zw
  cases r with
  | some x =>
    obtain ⟨c, q⟩ := x
    have hc : (c != 0) = true := by have := HCE.out c q rfl; simp; omega
    have e1 : errOf (some (c, q)) = c := rfl
    have e2 : atOf (some (c, q)) = q := rfl
    clear n1 n4 n2
    go_wp2_with fail
    go_region
    go_wp2
    refine bodyPost_ret (v := .tuple #[.slice none 0 0, .int .i64 c, .int .i64 q]) ?_ rfl ⟨.slice none 0 0, ?_, ?_, ?_⟩
    · simp [results, Try.results10, e1, e2]
    · rw [HSP.out]
    · rw [HSP.out]
      exact Kd.R_nil _ _ _ _ _
    · exact (B2.alloc hz2 _).drew
  | none =>
    have e1 : errOf none = 0 := rfl
    have lB := n4.lt
    have lS := n1.lt
    have c1 := (n1.cell 1).trans rfl
    have hll : l.length ≤ 2097153 := by have := HLN.out rfl; omega
    have hmk : ∀ W, (Instr.makeSlice 35 (.int .i64 0) (.int .i64 l.length)).run Try.prog W = .ok (.slice (some ⟨W.heap.size, 0, none⟩) 0 l.length) (W.alloc (.cells (madeCells #[.int .i64 0, .int .i64 0, .bool false, .int .i64 0, .string ⟨#[]⟩] (l.length * 5)) 40)) := by
      intro W
      obtain ⟨i0, hi, hz0, hz1, hz2⟩ := info_parts infoNode
      have h := run_make (P := Try.prog) W 35 40 i0 _ Try.underlying35 hi hz0 .i64 .i64 0 l.length (by omega) (by omega) (by rw [hz2]; omega) (by omega)
      rw [hz1] at h
      simp only [Int.toNat_natCast, Int.toNat_zero] at h
      exact h
    go_wp2_with fail
    refine gen2 (G := fun W => Code.wp _ _ _ _ W) fun W3 hB3 hz3 f1 f2 => ?_
    have r4 := n4.below hB3 lB
    have r2 := own_below n2 hB3 (Nat.le_refl _)
    have rR := R_at0 kNode (base := w.heap.size) (c := l.length) (ok := fun _ => True) f2 (size_madeCells _ _) (by omega) (by omega) trivial
    have rB := B2.trans (hB3.mono hz2)
    clear f1 f2 hB3 hz3 n1 n2 n4 c1 hmk e1 lS lB B2
    go_loopw [7, 30] (fun nv i wr => ∃ (k : Nat) (A2 : Option Addr) (c2 : Nat), k ≤ l.length ∧ nv = .slice A2 k c2 ∧ i = .int .i64 k ∧ At wr w.heap.size 9 #[.string s] ∧ wr.ownsRow w.heap.size 67 7 (.slice A l.length cp) l.length (fndRow l) ∧
        Kd.R kNode 40 wr w.heap.size (fun _ => True) (.slice A2 k c2) ((l.take k).map (nodeOf s)) ∧ Below w.heap.size w wr)
      (fun _ i _ => l.length - (intOf i).toNat)
    case atStart => exact ⟨0, _, _, Nat.zero_le _, rfl, rfl, r4, r2, rR, rB⟩
    case round =>
      obtain ⟨k, A2, c2, hk, rfl, rfl, q4, q2, qR, qB⟩ := hrel
      clear r4 r2 rR rB
      by_cases hkl : k < l.length
      · obtain ⟨g, cap, he, hcells⟩ := fnd_cells q2 (by omega)
        injection he with he1 he2 he3
        subst he1 he3
        obtain ⟨x, hx⟩ : ∃ x, x = l.getD k ⟨0, 0, ⟨0, false, 0, 0, 0⟩⟩ := ⟨_, rfl⟩
        have hb := HBD.out x (by rw [hx]; simp [hkl])
        have hcl : ∀ j u, (fndCells x)[j]? = some u → wr.cell? ⟨g, k * 7 + j, none⟩ = some u := fun j u hu => hcells k j u hkl (by rw [← hx]; exact hu)
        have x0 := hcl 0 _ rfl
        have x1 := hcl 1 _ rfl
        have x2 := hcl 2 _ rfl
        have x3 := hcl 3 _ rfl
        have x4 := hcl 4 _ rfl
        have x5 := hcl 5 _ rfl
        have x6 := hcl 6 _ rfl
        have HX := Lib.hid hx
        have i0 : (0 : Int) ≤ k := by omega
        have i1 : (k : Int) < l.length := by omega
        clear hcells hcl hx
        rw [Nat.add_zero] at x0
        obtain ⟨b1, b2, b3, b4⟩ := hb
        have l4 := q4.lt
        have c4 := (q4.cell 0).trans rfl
        have hlen : ((l.take k).map (nodeOf s)).length = k := by simp; omega
        have hlim : (((l.take k).map (nodeOf s)).length + 1) * 48 ≤ 140737488355328 := by rw [hlen]; omega
        have hnext : ((l.take (k + 1)).map (nodeOf s)) = (l.take k).map (nodeOf s) ++ [nodeOf s x] := by
          rw [List.take_succ_eq_append_getElem hkl, List.map_append, HX.out]
          simp [hkl]
        have HNX := Lib.hid hnext
        have zz : w.heap.size ≤ wr.heap.size := qB.size
        clear hlen hnext
        cases hmd : x.head.made with
        | true =>
          have hno : nodeOf s x = (x.depth, x.head.cls, true, x.head.tag, ⟨#[]⟩) := by unfold nodeOf; rw [hmd]; rfl
          have HNO := Lib.hid hno
          rw [hmd] at x3
          clear hno
          go_wp2_with (at_builtin; go_must (refine Kd.R_append kNode (w0 := w) w.heap.size rfl (.tmp 64) (.tmp 66) 35 40 _ 48 rfl Try.underlying35 infoNode rfl (by decide) (by decide) (.slice A2 k c2) ((l.take k).map (nodeOf s)) (nodeOf s x) [.int .i64 x.depth, .int .i64 x.head.cls, .bool true, .int .i64 x.head.tag, .string ⟨#[]⟩] (fun _ => True) (fun _ => False) rfl (by first | (go_simp; done) | (go_simp; rfl)) (by rw [HNO.out]; exact kNode_mkM _ _ _ _) (fun _ h => h.elim) (fun _ _ => trivial) (Kd.R_alloc (Kd.R_alloc qR _) _) ((qB.alloc zz _).alloc (by simp; omega) _) (by simp; omega) hlim ?_); intro v1 w5 hR5 hb5 hg5 hat5)
          have hR6 := hR5
          rw [← HNX.out] at hR6
          have q4' : At w5 w.heap.size 9 #[.string s] := (hg5.block _ (by simp; omega) (Kd.R_ne qR q4 (by decide))).trans ((q4.alloc _).alloc _)
          have q2' : w5.ownsRow w.heap.size 67 7 (.slice (some ⟨g, 0, none⟩) l.length cp) l.length (fndRow l) := own_other (pw_own_below (pw_own_below q2 ((Below.refl _ _).alloc (Nat.le_refl _) _)) ((Below.refl _ _).alloc (Nat.le_refl _) _)) hg5 (by
            obtain ⟨inner, ho⟩ := Kd.R_own qR
            exact own_type_ne q2 ho (by decide))
          obtain ⟨A5, c5, rfl⟩ := Kd.R_slice hR6
          have hlen : ((l.take (k + 1)).map (nodeOf s)).length = k + 1 := by simp; omega
          rw [hlen] at hR6 ⊢
          clear hR5 hg5 hat5 q4 q2 qR qB x0 x1 x2 x3 x4 x5 x6 c4
          go_wp2
          go_roundw
          case rel => exact ⟨k + 1, A5, c5, by omega, rfl, by go_num, q4', q2', hR6, hb5⟩
          case measure => simp [intOf]; omega
        | false =>
          have hno : nodeOf s x = (x.depth, x.head.cls, false, x.head.tag, s.extract (x.at_ + x.head.size).toNat (x.at_ + x.head.size + x.head.len).toNat) := by unfold nodeOf; rw [hmd]; rfl
          have HNO := Lib.hid hno
          rw [hmd] at x3
          clear hno
          go_wp2_with (at_builtin; go_must (refine Kd.R_append kNode (w0 := w) w.heap.size rfl (.tmp 64) (.tmp 66) 35 40 _ 48 rfl Try.underlying35 infoNode rfl (by decide) (by decide) (.slice A2 k c2) ((l.take k).map (nodeOf s)) (nodeOf s x) [.int .i64 x.depth, .int .i64 x.head.cls, .bool false, .int .i64 x.head.tag, .string (s.extract (x.at_ + x.head.size).toNat (x.at_ + x.head.size + x.head.len).toNat)] (fun _ => True) (fun _ => False) rfl (by first | (go_simp; done) | (go_simp; rfl)) (by rw [HNO.out]; exact kNode_mkM _ _ _ _) (fun _ h => h.elim) (fun _ _ => trivial) (Kd.R_alloc (Kd.R_alloc qR _) _) ((qB.alloc zz _).alloc (by simp; omega) _) (by simp; omega) hlim ?_); intro v1 w5 hR5 hb5 hg5 hat5)
          have hR6 := hR5
          rw [← HNX.out] at hR6
          have q4' : At w5 w.heap.size 9 #[.string s] := (hg5.block _ (by simp; omega) (Kd.R_ne qR q4 (by decide))).trans ((q4.alloc _).alloc _)
          have q2' : w5.ownsRow w.heap.size 67 7 (.slice (some ⟨g, 0, none⟩) l.length cp) l.length (fndRow l) := own_other (pw_own_below (pw_own_below q2 ((Below.refl _ _).alloc (Nat.le_refl _) _)) ((Below.refl _ _).alloc (Nat.le_refl _) _)) hg5 (by
            obtain ⟨inner, ho⟩ := Kd.R_own qR
            exact own_type_ne q2 ho (by decide))
          obtain ⟨A5, c5, rfl⟩ := Kd.R_slice hR6
          have hlen : ((l.take (k + 1)).map (nodeOf s)).length = k + 1 := by simp; omega
          rw [hlen] at hR6 ⊢
          clear hR5 hg5 hat5 q4 q2 qR qB x0 x1 x2 x3 x4 x5 x6 c4
          go_wp2
          go_roundw
          case rel => exact ⟨k + 1, A5, c5, by omega, rfl, by go_num, q4', q2', hR6, hb5⟩
          case measure => simp [intOf]; omega
      · obtain rfl : k = l.length := by omega
        go_wp2
        refine bodyPost_ret (v := .tuple #[.slice A2 l.length c2, .int .i64 0, .int .i64 0]) ?_ rfl ⟨.slice A2 l.length c2, ?_, ?_, qB⟩
        · simp [results, Try.results10]
        · rw [HSP.out]
        · rw [HSP.out]
          simpa using qR
end Go.Proofs.Ytbgmnfkfbiemaaa.W
