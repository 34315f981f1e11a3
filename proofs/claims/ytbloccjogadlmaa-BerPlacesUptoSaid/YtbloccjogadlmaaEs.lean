/- ber.Elems: the iterator's value and its contract; the document's Elems. -/
import Derived.RangeFuncNested
import Derived.RangeFuncBound
import Derived.RangeFuncCalls
import Derived.RangeFuncLeaves
import Derived.Shelf.Abstract
import Derived.Shelf.RegionOpen
import Derived.WalkKit
import Derived.OwnWalkIn
import Derived.TacticsInMore
import Derived.LoopNIn
import Derived.LoopIn
import Derived.Laws.EntriesVeiled
import Derived.Test.YtbloccjogadlmaaMa
import Derived.Test.YtbloccjogadlmaaBEl
import Derived.Test.YtbloccjogadlmaaBCa
import Derived.Test.YtbloccjogadlmaaSp
import Derived.Test.YtbloccjogadlmaaTr
namespace Go.Proofs.Ytbloccjogadlmaa.W
open Go.RowKit Go.Shelf Go.Proofs.YtbloccjogadlmaaW.PrintWords Go.Proofs.YtbloccjogadlmaaW.PrintLast
set_option linter.unusedVariables false
set_option linter.unusedSimpArgs false

/-- How the reader that Elems runs ends. -/
def runErr : Except (Int × Int) Int → Option (Int × Int)
  | .error x => some x
  | .ok _ => none

theorem ElemsCC_any (base gb gs : Nat) (s : ByteArray) (w : World) (hs : s.size ≤ 2097152) (aB : At w gb 9 #[.string s]) (hS : Scan base gs s [] w) (hb : base ≤ w.heap.size) (hgb : base ≤ gs) :
    Calls Try.prog 23 #[.pointer (some ⟨gs, 0, none⟩), .pointer (some ⟨gb, 0, none⟩)] w fun en w1 => en = optErr (runErr (walkS s).2) ∧ Scan base gs s (walkS s).1 w1 ∧ Below base w w1 ∧ Keeps gs w w1 := by
  have hne : gb ≠ gs := by obtain ⟨v, a, _⟩ := hS; exact aB.ne a (by decide)
  have he := element_reads s (by omega) (2 * s.size + 1) base gs [] 0 s.size 1 w (by omega) (by omega) hS hb hgb (by simp; omega) (by omega) (by omega) (by omega) (by omega)
  have hb0 := (aB.cell 0).trans rfl
  cases hr : (walkS s).2 with
  | error x =>
    obtain ⟨c, q⟩ := x
    have HW := Lib.hid hr
    have HE := Lib.hid he
    clear hr he hS
    go_enter Try.func23, Try.ntmps23
    go_wp2_with fail
    refine HE.out.mono ?_
    rintro en w1 ⟨h1, h2, h3, h4⟩
    have h := HW.out
    unfold walkS at h
    rw [h] at h1
    subst h1
    exact ⟨rfl, rfl, h2, h3, h4⟩
  | ok q =>
    have HW := Lib.hid hr
    have HE := Lib.hid he
    clear hr he hS
    go_enter Try.func23, Try.ntmps23
    go_wp2_with fail
    refine HE.out.mono ?_
    rintro en w1 ⟨h1, h2, h3, h4⟩
    have h := HW.out
    unfold walkS at h
    rw [h] at h1
    subst h1
    have H2 := Lib.hid h2
    have H4 := Lib.hid h4
    have H5 := Lib.hid h
    clear h2 h4 h hb0
    go_wp2_with fail
    go_end0
    exact ⟨rfl, H2.out, h3, H4.out⟩

/-- WHAT Elems ANSWERS: a function that holds the text's box. -/
theorem Elems_any (s : ByteArray) (w : World) :
    Calls Try.prog 9 #[.string s] w fun en w' => en = .returned (.func (.func 21) #[] #[.pointer (some ⟨w.heap.size, 0, none⟩)]) ∧ w' = w.alloc (.cells #[.string s] 9) := by
  have hmf : ∀ (fn : Fn) (first cap : Array Value) (w : World), (Instr.makeFunc fn first cap).run Try.prog w = .ok (.func fn first cap) w := fun _ _ _ _ => rfl
  go_enter Try.func9, Try.ntmps9
  go_wp2
  go_ret
  exact ⟨rfl, rfl⟩

/-- What yield is handed. -/
def yv (x : Int × Hd) : Array Value := #[.int .i64 x.1, hdV x.2]
/-- The places and headers that are come by. -/
def places (s : ByteArray) : List (Int × Hd) := (walkS s).1.map fun x => (x.at_, x.head)

/-- What a round keeps: every block of cells that lay, but for those of S. -/
def KpC (S : Nat → Prop) (W W' : World) : Prop := W.heap.size ≤ W'.heap.size ∧ ∀ k o, W.heap[k]? = some o → o.isCells = true → ¬ S k → W'.heap[k]? = some o
theorem KpC.refl (S : Nat → Prop) (W : World) : KpC S W W := ⟨Nat.le_refl _, fun _ _ h _ _ => h⟩
theorem kpC_t {S : Nat → Prop} {A B C : World} (h : KpC S A B) (k : KpC S B C) : KpC S A C := ⟨Nat.le_trans h.1 k.1, fun i o h1 h2 h3 => k.2 i o (h.2 i o h1 h2 h3) h2 h3⟩
theorem kpC_b {S : Nat → Prop} {w : World} (W : World) (l : Nat) (o o' : Obj) (_ : w.heap.size ≤ l) (h : W.heap[l]? = some o) (hc : o.isCells = false) (_ : o.isWalk = false) : KpC S W (W.putObj l o') := by
  refine ⟨(grownBy_putObj' W l o').size, fun k q h1 h2 h3 => ?_⟩
  have hne : some k ≠ some l := fun e => by
    injection e with e
    subst e
    rw [h1] at h
    injection h with h
    subst h
    rw [hc] at h2
    cases h2
  rw [(grownBy_putObj' W l o').block k (Array.getElem?_eq_some_iff.1 h1).1 hne]
  exact h1
theorem KpC.at {S : Nat → Prop} {W W' : World} (h : KpC S W W') {b t : Nat} {cs : Array Value} (hA : At W b t cs) (hb : ¬ S b) : At W' b t cs := h.2 b _ hA rfl hb
theorem KpC.row {S : Nat → Prop} {W W' : World} (h : KpC S W W') {base t sz n : Nat} {v : Value} {xs : List Value} (hO : W.ownsRow base t sz v n xs) (hb : ∀ k, base ≤ k → ¬ S k) : W'.ownsRow base t sz v n xs := by
  refine ⟨hO.1, ?_⟩
  rcases hO.2 with h1 | ⟨g, cap, cur, h1, h2, h3, h4, h5, h6, h7⟩
  · exact .inl h1
  · exact .inr ⟨g, cap, cur, h1, h2, h.2 g _ h3 rfl (hb g h2), h4, h5, h6, h7⟩

theorem grown_of_below {W W' : World} (h : Below W.heap.size W W') : W.grownBy W' none := ⟨h.os, h.tape, h.output, h.size, fun k hk _ => h.block k hk⟩

theorem wr64s (k : Nat) {n : Nat} (h : k < n) (hn : n ≤ 9223372036854775807) : wrap64 ((k : Int) + 1) = (k : Int) + 1 := by unfold wrap64; omega
set_option maxRecDepth 100000 in
set_option maxHeartbeats 4000000 in
/-- THE ITERATOR's CONTRACT. -/
theorem ElemsC_stops (n : Nat) (hn : 2 ≤ n) (S : Nat → Prop) (gb : Nat) (s : ByteArray) (w : World) (hs : s.size ≤ 2097152) (hS : ∀ k, S k → k < w.heap.size) (hb : At w gb 9 #[.string s]) :
    SeqStopsK Fence.wide n Try.prog 21 #[.pointer (some ⟨gb, 0, none⟩)] yv (KpC S) (fun xs => xs = places s) (fun pre => pre <+: places s) (places s).length w := by
  intro l J Jx W hW hJ hJx hY h0
  have hmf : ∀ (fn : Fn) (first cap : Array Value) (w : World), (Instr.makeFunc fn first cap).run Try.prog w = .ok (.func fn first cap) w := fun _ _ _ _ => rfl
  obtain ⟨lst, hlst⟩ : ∃ l, (walkS s).1 = l := ⟨_, rfl⟩
  obtain ⟨r, hr⟩ : ∃ r, runErr (walkS s).2 = r := ⟨_, rfl⟩
  have hpl : places s = lst.map fun x => (x.at_, x.head) := by unfold places; rw [hlst]
  rw [hpl] at hY ⊢
  have hbW : At W gb 9 #[.string s] := hb.below hW hb.lt
  have hSW : ∀ k, W.heap.size ≤ k → ¬ S k := fun k hk h => by have := hS k h; have := hW.size; omega
  have HC : ∀ (V : World) (base B gs : Nat), base ≤ V.heap.size → base ≤ gs → At V gb 9 #[.string s] → At V gs 57 #[.string s, .slice none 0 0] → At V B 59 #[.int .i64 0, .int .i64 0] →
      Calls Try.prog 23 #[.pointer (some ⟨gs, 0, none⟩), .pointer (some ⟨gb, 0, none⟩)] V (RunEnd r B fun w1 => Scan base gs s lst w1 ∧ Below base V w1 ∧ At w1 B 59 #[.int .i64 0, .int .i64 0]) := by
    intro V base B gs hb hgs a1 a2 a3
    refine (ElemsCC_any base gb gs s V hs a1 ⟨_, a2, own_nil V base 63 7⟩ hb hgs).mono ?_
    rintro en w1 ⟨h1, h2, h3, h4⟩
    rw [hr] at h1
    rw [hlst] at h2
    refine ⟨?_, h4 _ _ _ a3 (a3.ne a2 (by decide)) (by decide), h2, h3, h4 _ _ _ a3 (a3.ne a2 (by decide)) (by decide)⟩
    subst h1
    cases r with
    | none => rfl
    | some x => obtain ⟨c, q⟩ := x; rfl
  have HC := Lib.hid HC
  have HY := Lib.hid hY
  have HJ := Lib.hid hJ
  have HJX := Lib.hid hJx
  have hbc := (hbW.cell 0).trans rfl
  clear hlst hr hpl hY hJ hJx hb
  refine callsIn_of_wp Try.func21 rfl trivial ?_ rfl
  simp only [Try.ntmps21, List.size_toArray, List.length_cons, List.length_nil, Nat.reduceAdd, Nat.reduceSub, Array.replicate_succ, Array.replicate_zero, List.push_toArray, List.append_toArray, List.nil_append, List.cons_append]
  gi_wp2_with fail
  refine ⟨trivial, fun _ => by omega, ?_⟩
  have aS := At.new W 57 #[.string s, .slice none 0 0]
  have aF := At.new (W.alloc (.cells #[.string s, .slice none 0 0] 57)) 59 #[.int .i64 0, .int .i64 0]
  refine (callsIn_wide.2 (caught_ElemsCC _ _ r _ (HC.out _ W.heap.size _ _ (by simp; omega) (Nat.le_refl _) ((hbW.alloc _).alloc _) (aS.alloc _) aF))).mono ?_
  rintro en w2 ⟨rfl, w1, ⟨⟨v, m1, m2⟩, m3, m5⟩, hg⟩
  obtain ⟨A, cp, rfl⟩ := own_slice m2
  have n1 := m1.kept hg (by simp)
  have n2 : w2.ownsRow W.heap.size 63 7 (.slice A lst.length cp) lst.length (fndRow lst) := own_other m2 hg (by right; exact fun e => own_ne m2 m5 (by decide) e.symm)
  have hz1 : W.heap.size ≤ w1.heap.size := by have := m3.size; simp at this; omega
  have B2 : Below W.heap.size W w2 := below_kept ((((Below.refl _ W).alloc (Nat.le_refl _) _).alloc (by simp) _).trans m3) hg hz1 (by simp)
  have hcap : lst.length ≤ 9223372036854775807 := by
    rcases n2.2 with ⟨_, h1⟩ | ⟨g, cap, cur, h1, h2, h3, h4, h5, h6, h7⟩
    · rw [h1]; omega
    · have : maxLen = 9223372036854775807 := rfl
      omega
  have HCAP := Lib.hid hcap
  clear hcap
  have hJ2 : J [] w2 := HJ.out [] W w2 none h0 (grown_of_below B2) (fun r e => by cases e)
  have c1 := (n1.cell 1).trans rfl
  clear m1 m2 m3 m5 hg aS aF hbW hz1
  gi_wp2_with fail
  gi_loopw [13] (fun i wr => ∃ (k : Nat), k ≤ lst.length ∧ i = .int .i64 k ∧ wr.ownsRow W.heap.size 63 7 (.slice A lst.length cp) lst.length (fndRow lst) ∧ J ((lst.map fun x => (x.at_, x.head)).take k) wr)
    (fun i _ => lst.length - (intOf i).toNat)
  case atStart => exact ⟨0, Nat.zero_le _, rfl, n2, by simpa using hJ2⟩
  case round =>
    obtain ⟨k, hk, rfl, q2, qJ⟩ := hrel
    clear n2 hJ2 c1 n1 B2
    by_cases hkl : k < lst.length
    · obtain ⟨g, cap, he, hcells⟩ := fnd_cells q2 (by omega)
      injection he with he1 he2 he3
      subst he1 he3
      obtain ⟨x, hx⟩ : ∃ x, x = lst.getD k ⟨0, 0, ⟨0, false, 0, 0, 0⟩⟩ := ⟨_, rfl⟩
      have hcl : ∀ j u, (fndCells x)[j]? = some u → wr.cell? ⟨g, k * 7 + j, none⟩ = some u := fun j u hu => hcells k j u hkl (by rw [← hx]; exact hu)
      have x0 := hcl 0 _ rfl
      have x1 := hcl 1 _ rfl
      have x2 := hcl 2 _ rfl
      have x3 := hcl 3 _ rfl
      have x4 := hcl 4 _ rfl
      have x5 := hcl 5 _ rfl
      have x6 := hcl 6 _ rfl
      have i0 : (0 : Int) ≤ k := by omega
      have i1 : (k : Int) < lst.length := by omega
      have HX := Lib.hid hx
      have HK := Lib.hid hkl
      rw [Nat.add_zero] at x0
      clear hcells hcl hx
      have hJk : J ((lst.map fun x => (x.at_, x.head)).take k) (wr.alloc (.cells #[.int .i64 x.at_, .int .i64 x.depth, .int .i64 x.head.cls, .bool x.head.made, .int .i64 x.head.tag, .int .i64 x.head.len, .int .i64 x.head.size] 63)) := HJ.out _ wr _ none qJ (World.grownBy_alloc wr _ none) (fun r e => by cases e)
      obtain ⟨fn, tmps, assign, body, hy, hR⟩ := HY.out _ (x.at_, x.head) _ hJk (by simp; omega)
      have hnext : ((lst.map fun x => (x.at_, x.head)).take k) ++ [(x.at_, x.head)] = (lst.map fun x => (x.at_, x.head)).take (k + 1) := by
        rw [List.take_succ_eq_append_getElem (by simpa using hkl), HX.out]
        simp [hkl]
      rw [hnext] at hR
      have HR := Lib.hid hR
      have HQ := Lib.hid (own_below q2 (Below.alloc (Below.refl _ wr) (Nat.le_refl _) (.cells #[.int .i64 x.at_, .int .i64 x.depth, .int .i64 x.head.cls, .bool x.head.made, .int .i64 x.head.tag, .int .i64 x.head.len, .int .i64 x.head.size] 63)) (Nat.le_refl _))
      clear hR hnext q2 qJ hJk
      dsimp only [yv, hdV] at hy
      gi_wp2_with fail
      refine ⟨fun _ => by omega, ?_⟩
      refine HR.out.mono ?_
      rintro e W3 (⟨rfl, hJ3, hk3⟩ | ⟨rfl, hJx3⟩)
      · have q3 := hk3.row HQ.out hSW
        clear HQ HR hk3
        gi_wp2_with fail
        go_roundw
        case rel =>
          exact ⟨k + 1, HK.out, by rw [wr64s k HK.out HCAP.out]; rfl, q3, hJ3⟩
        case measure =>
          have i3 := HK.out
          rw [wr64s k HK.out HCAP.out]
          simp only [intOf]
          omega
      · gi_wp2_with fail
        refine bodyPost_ret (results_none rfl _ _ _) rfl ?_
        exact ⟨⟨_, rfl⟩, .inr ⟨_, List.take_prefix _ _, hJx3⟩⟩
    · obtain rfl : k = lst.length := by omega
      gi_wp2_with fail
      go_end0
      exact ⟨⟨_, rfl⟩, .inl ⟨_, rfl, by rw [List.take_of_length_le (by simp)] at qJ; exact qJ⟩⟩
end Go.Proofs.Ytbloccjogadlmaa.W
