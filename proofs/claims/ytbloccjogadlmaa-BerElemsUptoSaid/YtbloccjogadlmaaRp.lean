/- Plain law: what the printed functions of the document's ber (Split, walk, Tree, Elems) answer. -/
import Derived.Test.YtbloccjogadlmaaMa
import Derived.Test.YtbloccjogadlmaaHdd
import Derived.Test.YtbloccjogadlmaaGRx1
import Derived.Test.YtbloccjogadlmaaGRx1
import Derived.Test.YtbloccjogadlmaaGRx2
import Derived.Test.YtbloccjogadlmaaGRx3
namespace Go.Proofs.Ytbloccjogadlmaa.W
open Go.RowKit Go.Proofs.Ytbloccjogadlmaa.GR Go.Proofs.YtbloccjogadlmaaW.PrintWords Go.Proofs.YtbloccjogadlmaaW.PrintLast
set_option linter.unusedVariables false
set_option linter.unusedSimpArgs false

theorem wr64 (x : Int) (h0 : 0 ≤ x) (h1 : x < 9223372036854775808) : wrap64 x = x := by unfold wrap64; omega
theorem bnd2 {s : ByteArray} {p e d : Int} (hd : d ≤ 64) : bnd s p e d = match hdr s p e 2 with
    | .ok h => if e - p - h.size < h.len then .error (miss d, e) else .ok h
    | .error (c, q) => .error (if c = 26 then miss d else c, q) := by
  unfold bnd
  rw [hdr_as s p e d hd]
  cases hdr s p e 2 with
  | ok h => rfl
  | error x => rfl
theorem miss_two (d : Int) : miss d = 20 ∨ miss d = 26 := by unfold miss; split <;> simp
theorem whole_ok {s : ByteArray} {p e d : Int} {k : Hd} (h0 : 0 ≤ p) (he : e ≤ (s.size : Int)) (hs : s.size ≤ 4194304) (hd : d ≤ 64) (hb : bnd s p e d = .ok k) :
    rosterref02_whole.f s p e = some (k.cls, k.made, k.tag, k.len, k.size, 0, p) := by
  obtain ⟨b1, b2⟩ := bnd_ok hb
  obtain ⟨_, _, k3, k4, k5, k6, _⟩ := hdr_ok b1
  rw [bnd2 hd] at hb
  cases hh : hdr s p e 2 with
  | error x => rw [hh] at hb; cases hb
  | ok h =>
    rw [hh] at hb
    simp only at hb
    have hk : h = k := by
      split at hb
      · cases hb
      · injection hb
    subst hk
    unfold rosterref02_whole.f rosterref02_headAt.f
    rw [if_pos ⟨h0, he, by omega⟩, refOf_ok hh]
    simp only [Option.bind_some, if_true]
    rw [wr64 (p + h.size) (by omega) (by omega), wr64 _ (by omega) (by omega), if_neg (by omega)]
theorem whole_err {s : ByteArray} {p e d c q : Int} (h0 : 0 ≤ p) (he : e ≤ (s.size : Int)) (hs : s.size ≤ 4194304) (hd : d ≤ 64) (hb : bnd s p e d = .error (c, q)) :
    rosterref02_whole.f s p e = some (0, false, 0, 0, 0, if c = miss d then -1 else c, q) := by
  have hm := miss_two d
  rw [bnd2 hd] at hb
  cases hh : hdr s p e 2 with
  | error x =>
    obtain ⟨c', q'⟩ := x
    rw [hh] at hb
    simp only at hb
    injection hb with hb
    injection hb with h1 h2
    subst h2
    have hc := hdr_code hh
    unfold rosterref02_whole.f rosterref02_headAt.f
    rw [if_pos ⟨h0, he, by omega⟩, refOf_err hh]
    by_cases c1 : c' = 26
    · rw [if_pos c1] at h1
      simp only [c1, if_true, Option.bind_some]
      rw [if_neg (by omega), if_pos h1.symm]
    · rw [if_neg c1] at h1
      simp only [c1, if_false, Option.bind_some]
      rw [if_neg (by omega), if_neg (by omega), h1]
  | ok h =>
    obtain ⟨_, k2, k3, k4, k5, k6, _⟩ := hdr_ok hh
    rw [hh] at hb
    simp only at hb
    unfold rosterref02_whole.f rosterref02_headAt.f
    rw [if_pos ⟨h0, he, by omega⟩, refOf_ok hh]
    simp only [Option.bind_some, if_true]
    rw [wr64 (p + h.size) (by omega) (by omega), wr64 _ (by omega) (by omega)]
    by_cases c1 : e - p - h.size < h.len
    · rw [if_pos c1] at hb
      injection hb with hb
      injection hb with h1 h2
      rw [if_pos (by omega), if_pos h1.symm, h2]
    · rw [if_neg c1] at hb
      cases hb

/-! The document's Split. -/
def eup (x : ElemT) : S71 := ⟨x.1, x.2.1, x.2.2.1, x.2.2.2⟩
def nup (x : NodeT) : S39 := ⟨x.1, x.2.1, x.2.2.1, x.2.2.2.1, x.2.2.2.2⟩
def splitU : List S71 → List ElemT × Option (Int × Int) → List S71 × Int × Int
  | acc, (l, none) => (acc ++ l.map eup, 0, 0)
  | _, (_, some x) => ([], x.1, x.2)
theorem split_l (s : ByteArray) (hs : s.size ≤ 4194304) : ∀ (n k : Nat) (p : Int) (acc : List S71), 0 ≤ p → (s.size : Int) + 1 ≤ n + p → n ≤ k → (acc.length : Int) ≤ p → p ≤ (s.size : Int) →
    rosterref02_Split.l0 k s acc p = some (splitU acc (splitN s n p)) := by
  intro n
  induction n with
  | zero => intro k p acc h0 hn hk hl hp; omega
  | succ n ih =>
    intro k p acc h0 hn hk hl hp
    obtain ⟨k, rfl⟩ : ∃ j, k = j + 1 := ⟨k - 1, by omega⟩
    rw [rosterref02_Split.l0, splitN]
    by_cases c : p < (s.size : Int)
    · rw [if_pos c, if_pos c]
      cases hb : bnd s p s.size 1 with
      | error x =>
        obtain ⟨e, q⟩ := x
        have he := bnd_err hb
        rw [whole_err h0 (by omega) hs (by omega) hb]
        have m1 : miss 1 = 20 := rfl
        simp only [Option.bind_some, m1]
        by_cases c2 : e = 20
        · subst c2
          rw [if_pos rfl, if_pos rfl, if_neg (by decide)]
          rfl
        · rw [if_neg c2, if_neg (by omega), if_neg (by omega)]
          rfl
      | ok h =>
        obtain ⟨b1, b2⟩ := bnd_ok hb
        obtain ⟨_, _, k3, k4, k5, k6, _⟩ := hdr_ok b1
        rw [whole_ok h0 (by omega) hs (by omega) hb]
        simp only [Option.bind_some]
        rw [if_neg (by decide), if_pos trivial, wr64 (p + h.size) (by omega) (by omega), wr64 (p + h.size + h.len) (by omega) (by omega), if_pos (by omega), if_pos (by omega), if_pos (by omega), if_pos (by omega)]
        rw [ih k (p + h.size + h.len) _ (by omega) (by omega) (by omega) (by rw [List.length_append, List.length_singleton]; omega) (by omega)]
        congr 1
        cases hr : splitN s n (p + h.size + h.len) with
        | mk l r =>
          cases r with
          | none => simp [splitU, eup]
          | some x => rfl
    · rw [if_neg c, if_neg c]
      simp [splitU]
theorem refSplit_f (s : ByteArray) (hs : s.size ≤ 4194304) : rosterref02_Split.f (s.size + 1) s = some ((splitS s).1.map eup, (splitS s).2.1, (splitS s).2.2) := by
  unfold rosterref02_Split.f
  rw [split_l s hs (s.size + 1) (s.size + 1) 0 [] (by omega) (by omega) (by omega) (by simp) (by omega)]
  congr 1
  have e : splitS s = splitR (splitN s (s.size + 1) 0) := rfl
  rw [e]
  cases splitN s (s.size + 1) 0 with
  | mk l r => cases r with
    | none => rfl
    | some x => rfl

/-! The document's walk. -/
def plU (x : Fnd) : S31 := ⟨x.at_, ⟨x.head.cls, x.head.made, x.head.tag, x.head.len, x.head.size⟩⟩
abbrev WR := List S31 × List Int × Int × Int
abbrev WEv (s : ByteArray) (l : List S31) (ds E : List Int) (p : Int) (r : WR) : Prop := Ev (fun k => rosterref02_walk.l1 k s l ds E p) r
theorem rd_last (E : List Int) (x : Int) (j : Int) (hj : j = (E.length : Int)) : rd (E ++ [x]) j = x := by
  subst hj
  unfold rd
  simp
theorem w_pop {s : ByteArray} {l : List S31} {ds E : List Int} {p : Int} {r : WR} (hE : E.length ≤ 1000) (h : WEv s l ds E p r) : WEv s l ds (E ++ [p]) p r := by
  refine Ev.step (fun k => ?_) h
  have w : wrap64 (((E ++ [p]).length : Nat) - 1 : Int) = E.length := by rw [List.length_append, List.length_singleton]; unfold wrap64; omega
  rw [rosterref02_walk.l1, w, if_pos (by rw [List.length_append, List.length_singleton]; omega), if_pos (by omega), if_pos (by rw [List.length_append, List.length_singleton]; omega), rd_last E p _ rfl, if_pos rfl, if_pos (by rw [List.length_append, List.length_singleton]; omega)]
  congr 1
  simp
theorem w_l0 {s : ByteArray} {l : List S31} {ds E : List Int} {p : Int} {r : WR} (h : WEv s l ds E p r) : Ev (fun k => rosterref02_walk.l0 k s l ds E p) r :=
  Ev.step (fun k => by rw [rosterref02_walk.l0]) h
/-- The stack of ends, popped at p, and the end of the stretch that is read. -/
def Ctx (s : ByteArray) (l : List S31) (E : List Int) (p e : Int) : Prop :=
  (E = [] ∧ l = [] ∧ e = (s.size : Int)) ∨ (∃ E0, E = E0 ++ [e] ∧ p ≠ e ∧ l ≠ [])
theorem w_j4 {s : ByteArray} {l : List S31} {ds E : List Int} {p e : Int} {r : WR} (hE : E.length ≤ 1000) (hc : Ctx s l E p e) (h : Ev (fun k => rosterref02_walk.j4 k s l ds E p e) r) : WEv s l ds E p r := by
  rcases hc with ⟨rfl, rfl, rfl⟩ | ⟨E0, rfl, hne, hl⟩
  · refine Ev.step (f := fun k => rosterref02_walk.j2 k s [] ds [] p) (fun k => by rw [rosterref02_walk.l1]; simp) ?_
    refine Ev.step (f := fun k => rosterref02_walk.j3 k s [] ds [] p false) (fun k => by rw [rosterref02_walk.j2]; simp) ?_
    exact Ev.step (fun k => by rw [rosterref02_walk.j3]; simp) h
  · have hln : ((E0 ++ [e]).length : Int) = E0.length + 1 := by simp
    have w : wrap64 (((E0 ++ [e]).length : Nat) - 1 : Int) = E0.length := by rw [hln]; unfold wrap64; simp at hE; omega
    have hll : 0 < l.length := List.length_pos_iff.2 hl
    refine Ev.step (f := fun k => rosterref02_walk.j2 k s l ds (E0 ++ [e]) p) (fun k => by
      rw [rosterref02_walk.l1, w, if_pos (by omega), if_pos (by omega), if_pos (by omega), rd_last E0 e _ rfl, if_neg (fun x => hne x.symm)]) ?_
    refine Ev.step (f := fun k => rosterref02_walk.j3 k s l ds (E0 ++ [e]) p false) (fun k => by
      rw [rosterref02_walk.j2, if_pos (by omega)]
      congr 1
      rw [beq_eq_false_iff_ne]
      omega) ?_
    exact Ev.step (fun k => by rw [rosterref02_walk.j3, if_neg (by simp), w, if_pos (by omega), if_pos (by omega), if_pos (by omega), rd_last E0 e _ rfl]) h
theorem w_err {s : ByteArray} {l : List S31} {ds E : List Int} {p e c q : Int} (hs : s.size ≤ 4194304) (h0 : 0 ≤ p) (he : e ≤ (s.size : Int)) (hE : E.length ≤ 1000) (hc : Ctx s l E p e) (hb : bnd s p e (E.length + 1) = .error (c, q)) :
    WEv s l ds E p (l, ds, c, q) := by
  refine w_j4 hE hc ?_
  have w : wrap64 ((E.length : Int) + 1) = E.length + 1 := wr64 _ (by omega) (by omega)
  by_cases hd : (64 : Int) < E.length + 1
  · have hh : bnd s p e (E.length + 1) = .error (25, p) := by unfold bnd hdr; rw [if_pos hd]
    rw [hh] at hb
    injection hb with hb
    injection hb with h1 h2
    subst h1 h2
    refine Ev.step (f := fun _ => some _) (fun k => ?_) (Ev.now _)
    rw [rosterref02_walk.j4, w, if_pos (by omega)]
  · have he := bnd_err hb
    have hm : miss ((E.length : Int) + 1) = if l = [] then 20 else 26 := by
      rcases hc with ⟨rfl, rfl, rfl⟩ | ⟨E0, rfl, hne, hl⟩
      · rfl
      · rw [if_neg hl]
        unfold miss
        rw [if_neg (by simp; omega)]
    have hj5 : ∀ (c : Int) (c1 : Int) (c2 : Bool) (c3 c4 c5 : Int), c ≠ 0 → Ev (fun k => rosterref02_walk.j5 k s l ds E p c q c1 c2 c3 c4 c5) (l, ds, c, q) := fun c c1 c2 c3 c4 c5 hcz =>
      Ev.step (f := fun _ => some _) (fun k => by rw [rosterref02_walk.j5, if_neg hcz]) (Ev.now _)
    have hw := whole_err h0 ‹_› hs (by omega) hb
    by_cases hcm : c = miss ((E.length : Int) + 1)
    · rw [if_pos hcm] at hw
      refine Ev.step (f := fun k => rosterref02_walk.j5 k s l ds E p c q 0 false 0 0 0) (fun k => ?_) (hj5 _ _ _ _ _ _ (by omega))
      rw [rosterref02_walk.j4, w, if_neg (by omega), hw]
      simp only [Option.bind_some, if_true]
      rw [hcm, hm]
      by_cases hl : l = []
      · rw [if_pos (by rw [hl]; rfl), if_pos hl]
      · rw [if_neg (by have := List.length_pos_iff.2 hl; omega), if_neg hl]
    · rw [if_neg hcm] at hw
      refine Ev.step (f := fun k => rosterref02_walk.j5 k s l ds E p c q 0 false 0 0 0) (fun k => ?_) (hj5 _ _ _ _ _ _ (by omega))
      rw [rosterref02_walk.j4, w, if_neg (by omega), hw]
      simp only [Option.bind_some]
      rw [if_neg (by omega)]
theorem w_ok {s : ByteArray} {l : List S31} {ds E : List Int} {p e : Int} {h : Hd} {r : WR} (hs : s.size ≤ 4194304) (h0 : 0 ≤ p) (he : e ≤ (s.size : Int)) (hE : E.length ≤ 1000) (hl : (l.length : Int) ≤ p) (hds : ds.length = l.length) (hc : Ctx s l E p e) (hb : bnd s p e (E.length + 1) = .ok h)
    (hr : WEv s (l ++ [⟨p, ⟨h.cls, h.made, h.tag, h.len, h.size⟩⟩]) (ds ++ [(E.length : Int) + 1]) (E ++ [p + h.size + h.len]) (if h.made = true then p + h.size else p + h.size + h.len) r) : WEv s l ds E p r := by
  refine w_j4 hE hc ?_
  have w : wrap64 ((E.length : Int) + 1) = E.length + 1 := wr64 _ (by omega) (by omega)
  obtain ⟨b1, b2⟩ := bnd_ok hb
  obtain ⟨k1, _, k3, k4, k5, k6, _⟩ := hdr_ok b1
  have hw := whole_ok h0 he hs (by omega) hb
  have hr0 := w_l0 hr
  refine Ev.step (f := fun k => rosterref02_walk.j5 k s l ds E p 0 p h.cls h.made h.tag h.len h.size) (fun k => ?_) ?_
  · rw [rosterref02_walk.j4, w, if_neg (by omega), hw]
    simp only [Option.bind_some]
    rw [if_neg (by decide)]
  · refine Ev.step (fun k => ?_) hr0
    rw [rosterref02_walk.j5, if_pos rfl, if_pos (by omega)]
    simp only [Option.bind_some]
    rw [if_pos (by omega), if_pos (by omega), w, wr64 (p + h.size) (by omega) (by omega), wr64 (p + h.size + h.len) (by omega) (by omega)]
    cases h.made with
    | true => rfl
    | false => rfl

def dep (x : Fnd) : Int := x.depth
theorem w_elem (s : ByteArray) (hs : s.size ≤ 4194304) : ∀ n : Nat,
    (∀ (p e : Int) (l : List S31) (ds E : List Int), 0 ≤ p → e ≤ (s.size : Int) → E.length ≤ 64 → (l.length : Int) ≤ p → ds.length = l.length → Ctx s l E p e → 2 * (e - p) + 1 ≤ (n : Int) → 1 ≤ n →
      (∀ c q, (elemF s n p e (E.length + 1)).2 = .error (c, q) → WEv s l ds E p (l ++ (elemF s n p e (E.length + 1)).1.map plU, ds ++ (elemF s n p e (E.length + 1)).1.map dep, c, q)) ∧
      (∀ q r, (elemF s n p e (E.length + 1)).2 = .ok q → WEv s (l ++ (elemF s n p e (E.length + 1)).1.map plU) (ds ++ (elemF s n p e (E.length + 1)).1.map dep) E q r → WEv s l ds E p r)) ∧
    (∀ (p e : Int) (l : List S31) (ds E : List Int), 0 ≤ p → p ≤ e → e ≤ (s.size : Int) → E.length ≤ 63 → (l.length : Int) ≤ p → ds.length = l.length → l ≠ [] → 2 * (e - p) + 2 ≤ (n : Int) →
      (∀ c q, (elemsF s n p e (E.length + 2)).2 = .error (c, q) → WEv s l ds (E ++ [e]) p (l ++ (elemsF s n p e (E.length + 2)).1.map plU, ds ++ (elemsF s n p e (E.length + 2)).1.map dep, c, q)) ∧
      (∀ q r, (elemsF s n p e (E.length + 2)).2 = .ok q → WEv s (l ++ (elemsF s n p e (E.length + 2)).1.map plU) (ds ++ (elemsF s n p e (E.length + 2)).1.map dep) E e r → WEv s l ds (E ++ [e]) p r))
  | 0 => ⟨fun p e l ds E h0 he hE hl hd hc hn h1 => by omega, fun p e l ds E h0 hp he hE hl hd hln hn => by omega⟩
  | n + 1 => by
    obtain ⟨ih1, ih2⟩ := w_elem s hs n
    refine ⟨fun p e l ds E h0 he hE hl hd hc hn h1 => ?_, fun p e l ds E h0 hp he hE hl hd hln hn => ?_⟩
    · rw [elemF]
      cases hb : bnd s p e (E.length + 1) with
      | error x =>
        obtain ⟨c, q⟩ := x
        refine ⟨fun c' q' h => ?_, fun q' r h => (by cases h)⟩
        simp only at h
        injection h with h
        injection h with h1 h2
        subst h1 h2
        have := w_err (ds := ds) hs h0 he (by omega) hc hb
        simpa using this
      | ok h =>
        obtain ⟨b1, b2⟩ := bnd_ok hb
        obtain ⟨k1, _, k3, k4, k5, k6, _⟩ := hdr_ok b1
        have hll : ((l ++ [(⟨p, ⟨h.cls, h.made, h.tag, h.len, h.size⟩⟩ : S31)]).length : Int) ≤ p + h.size := by rw [List.length_append, List.length_singleton]; omega
        have hdd : (ds ++ [(E.length : Int) + 1]).length = (l ++ [(⟨p, ⟨h.cls, h.made, h.tag, h.len, h.size⟩⟩ : S31)]).length := by simp [hd]
        cases hm : h.made with
        | true =>
          have e2 : ((E.length : Int) + 1 + 1) = E.length + 2 := by omega
          simp only [hm, if_true, e2]
          have hk := ih2 (p + h.size) (p + h.size + h.len) (l ++ [⟨p, ⟨h.cls, h.made, h.tag, h.len, h.size⟩⟩]) (ds ++ [(E.length : Int) + 1]) E (by omega) (by omega) (by omega) (by omega) hll hdd (by simp) (by omega)
          refine ⟨fun c q he2 => ?_, fun q r he2 hr => ?_⟩
          · refine w_ok hs h0 he (by omega) hl hd hc hb ?_
            rw [hm, if_pos rfl]
            have := hk.1 c q he2
            simp only [List.append_assoc, List.singleton_append, hm] at this
            simp only [List.map_cons, plU, dep, hm]
            exact this
          · refine w_ok hs h0 he (by omega) hl hd hc hb ?_
            rw [hm, if_pos rfl]
            have hq : q = p + h.size + h.len := ((elem_ok s n).2 _ _ _ q (by omega) he2).2
            subst hq
            have := hk.2 _ r he2 (by
              simp only [List.append_assoc, List.singleton_append, hm]
              simp only [List.map_cons, plU, dep, hm] at hr
              exact hr)
            rw [hm] at this
            exact this
        | false =>
          simp only [hm, Bool.false_eq_true, if_false]
          refine ⟨fun c q he2 => (by cases he2), fun q r he2 hr => ?_⟩
          injection he2 with he2
          subst he2
          refine w_ok hs h0 he (by omega) hl hd hc hb ?_
          rw [hm, if_neg (by simp)]
          refine w_pop (by omega) ?_
          simp only [List.map_cons, List.map_nil, plU, dep, hm] at hr
          exact hr
    · rw [elemsF]
      by_cases c1 : p < e
      · rw [if_pos c1]
        have hd2 : ((E ++ [e]).length : Int) + 1 = E.length + 2 := by rw [List.length_append, List.length_singleton]; omega
        have hk := ih1 p e l ds (E ++ [e]) h0 he (by rw [List.length_append, List.length_singleton]; omega) hl hd (.inr ⟨E, rfl, by omega, hln⟩) (by omega) (by omega)
        rw [hd2] at hk
        cases hr1 : (elemF s n p e (E.length + 2)).2 with
        | error x =>
          obtain ⟨c, q⟩ := x
          refine ⟨fun c' q' h => ?_, fun q' r h => (by cases h)⟩
          simp only at h
          injection h with h
          injection h with h1 h2
          subst h1 h2
          exact hk.1 _ _ hr1
        | ok q =>
          have ho := (elem_ok s n).1 p e _ q hr1
          have hk2 := ih2 q e (l ++ (elemF s n p e (E.length + 2)).1.map plU) (ds ++ (elemF s n p e (E.length + 2)).1.map dep) E (by omega) (by omega) he hE (by rw [List.length_append, List.length_map]; omega) (by simp [hd]) (by simp [hln]) (by omega)
          simp only
          refine ⟨fun c' q' h => ?_, fun q' r h hr => ?_⟩
          · refine hk.2 q _ hr1 ?_
            have := hk2.1 c' q' h
            simp only [List.append_assoc, ← List.map_append] at this ⊢
            exact this
          · refine hk.2 q _ hr1 ?_
            refine hk2.2 q' r h ?_
            simp only [List.append_assoc, ← List.map_append] at hr ⊢
            exact hr
      · rw [if_neg c1]
        have : p = e := by omega
        subst this
        refine ⟨fun c' q' h => (by cases h), fun q' r h hr => w_pop (by omega) (by simpa using hr)⟩
/-- What the document's walk answers. -/
def walkU (s : ByteArray) : WR := match (walkS s).2 with
  | .error x => ((walkS s).1.map plU, (walkS s).1.map dep, x.1, x.2)
  | .ok q => ((walkS s).1.map plU, (walkS s).1.map dep, 0, q)
theorem walk_f (s : ByteArray) (hs : s.size ≤ 2097152) : Ev (fun k => rosterref02_walk.f k s) (walkU s) := by
  refine Ev.congr (f := fun k => rosterref02_walk.l0 k s [] [] [] 0) (fun k => by rw [rosterref02_walk.f]) (w_l0 ?_)
  have hk := (w_elem s (by omega) (2 * s.size + 1)).1 0 s.size [] [] [] (by omega) (by omega) (by simp) (by simp) rfl (.inl ⟨rfl, rfl, rfl⟩) (by omega) (by omega)
  have e1 : elemF s (2 * s.size + 1) 0 s.size ((([] : List Int).length : Int) + 1) = walkS s := rfl
  rw [e1] at hk
  unfold walkU
  cases hr : (walkS s).2 with
  | error x =>
    obtain ⟨c, q⟩ := x
    have := hk.1 c q hr
    simpa using this
  | ok q =>
    refine hk.2 q _ hr ?_
    have hne : 0 < ((walkS s).1.map plU).length := by
      have h : (elemF s (2 * s.size + 1) 0 s.size 1).2 = .ok q := hr
      have hl : 0 < (elemF s (2 * s.size + 1) 0 s.size 1).1.length := by
        rw [elemF] at h ⊢
        cases hb : bnd s 0 s.size 1 with
        | error x => rw [hb] at h; cases h
        | ok k =>
          simp only
          cases k.made <;> simp
      rw [List.length_map]
      exact hl
    simp only [List.nil_append]
    refine Ev.step (f := fun k => rosterref02_walk.j2 k s ((walkS s).1.map plU) ((walkS s).1.map dep) [] q) (fun k => by rw [rosterref02_walk.l1]; simp) ?_
    refine Ev.step (f := fun k => rosterref02_walk.j3 k s ((walkS s).1.map plU) ((walkS s).1.map dep) [] q true) (fun k => by rw [rosterref02_walk.j2, if_pos (by omega)]; simp) ?_
    exact Ev.step (f := fun _ => some _) (fun k => by rw [rosterref02_walk.j3, if_pos rfl]) (Ev.now _)

/-! The document's Tree. -/
theorem getD_mid {α β : Type} (f : α → β) (d : β) (pre suf : List α) (x : α) (i : Int) (hi : i = (pre.length : Int)) : ((pre ++ x :: suf).map f).getD i.toNat d = f x := by
  subst hi
  simp
theorem tree_l (s : ByteArray) (hs : s.size ≤ 2097152) : ∀ (suf pre : List Fnd), ((pre ++ suf).length : Int) ≤ 2097152 →
    (∀ x ∈ suf, 0 ≤ x.at_ ∧ 0 ≤ x.head.len ∧ 2 ≤ x.head.size ∧ x.at_ + x.head.size + x.head.len ≤ (s.size : Int)) →
    Ev (fun k => rosterref02_Tree.l0 k s ((pre ++ suf).map plU) ((pre ++ suf).map dep) ((pre.map (nodeOf s)).map nup) pre.length) (((pre ++ suf).map (nodeOf s)).map nup, 0, 0) := by
  intro suf
  induction suf with
  | nil =>
    intro pre hl hx
    refine Ev.step (f := fun _ => some _) (fun k => ?_) (Ev.now _)
    rw [rosterref02_Tree.l0, if_neg (by simp)]
    simp
  | cons x suf ih =>
    intro pre hl hx
    have hb := hx x (by simp)
    have hll : (pre.length : Int) + 1 + suf.length ≤ 2097152 := by simp at hl; omega
    have q1 : (pre.length : Int) < (((pre ++ x :: suf).map plU).length : Int) := by rw [List.length_map, List.length_append, List.length_cons]; omega
    have q2 : (0 : Int) ≤ (pre.length : Int) := by omega
    have q3 : (pre.length : Int) < (((pre ++ x :: suf).map dep).length : Int) := by rw [List.length_map, List.length_append, List.length_cons]; omega
    have q4 : ((pre.map (nodeOf s)).map nup).length < 2932031007402 := by rw [List.length_map, List.length_map]; omega
    have q5 : 0 ≤ x.at_ + x.head.size := by omega
    have q6 : x.at_ + x.head.size ≤ x.at_ + x.head.size + x.head.len := by omega
    have q7 : x.at_ + x.head.size + x.head.len ≤ (s.size : Int) := by omega
    have r1 : rd ((pre ++ x :: suf).map dep) (pre.length : Int) = x.depth := getD_mid dep 0 pre suf x _ rfl
    have r2 : rd_T31 ((pre ++ x :: suf).map plU) (pre.length : Int) = plU x := getD_mid plU _ pre suf x _ rfl
    have w1 : wrap64 ((pre.length : Int) + 1) = pre.length + 1 := wr64 _ (by omega) (by omega)
    have w2 : wrap64 (x.at_ + x.head.size) = x.at_ + x.head.size := wr64 _ (by omega) (by omega)
    have w3 : wrap64 (x.at_ + x.head.size + x.head.len) = x.at_ + x.head.size + x.head.len := wr64 _ (by omega) (by omega)
    have hn := ih (pre ++ [x]) (by simpa using hl) (fun y hy => hx y (by simp [hy]))
    have e1 : pre ++ [x] ++ suf = pre ++ x :: suf := by simp
    have e2 : ((pre ++ [x]).length : Int) = pre.length + 1 := by simp
    have e3 : ((pre ++ [x]).map (nodeOf s)).map nup = (pre.map (nodeOf s)).map nup ++ [nup (nodeOf s x)] := by simp
    rw [e1, e2, e3] at hn
    refine Ev.step (fun k => ?_) hn
    rw [rosterref02_Tree.l0, if_pos q1, if_pos q2, if_pos q3, r1, r2]
    simp only [plU, w1, w2, w3]
    cases hm : x.head.made with
    | true =>
      rw [if_pos rfl, if_pos q4]
      have : nup (nodeOf s x) = ⟨x.depth, x.head.cls, true, x.head.tag, ⟨#[]⟩⟩ := by unfold nup nodeOf; rw [hm]; rfl
      rw [this]
    | false =>
      rw [if_neg (by simp), if_pos q5, if_pos q6, if_pos q7, if_pos q4]
      have : nup (nodeOf s x) = ⟨x.depth, x.head.cls, false, x.head.tag, s.extract (x.at_ + x.head.size).toNat (x.at_ + x.head.size + x.head.len).toNat⟩ := by unfold nup nodeOf; rw [hm]; rfl
      rw [this]
theorem refTree_f (s : ByteArray) (hs : s.size ≤ 2097152) : ∃ k, rosterref02_Tree.f k s = some ((treeS s).1.map nup, (treeS s).2.1, (treeS s).2.2) := by
  refine Ev.rounds (g := fun k => rosterref02_Tree.f k s) ?_
  have hin := (elem_in s (2 * s.size + 1)).1 0 s.size 1
  have hw := walk_f s hs
  unfold walkU at hw
  unfold treeS
  obtain ⟨l, hl⟩ : ∃ l, (walkS s).1 = l := ⟨_, rfl⟩
  cases hr : (walkS s).2 with
  | error x =>
    obtain ⟨c, q⟩ := x
    have hc := (elem_err s (2 * s.size + 1)).1 0 s.size 1 c q (by omega) (by omega) hr
    rw [hr] at hw
    have e : walkS s = (l, .error (c, q)) := by rw [← hl, ← hr]
    rw [e]
    simp only [treeR]
    have e2 : ∀ k, rosterref02_Tree.f k s = (rosterref02_walk.f k s).bind fun bt => (if bt.2.2.1 = 0 then (rosterref02_Tree.j0 k s bt.1 bt.2.1 bt.2.2.1 bt.2.2.2 (decide (bt.2.2.2 < (s.size : Int)))) else (rosterref02_Tree.j0 k s bt.1 bt.2.1 bt.2.2.1 bt.2.2.2 false)) := fun k => rfl
    refine Ev.congr e2 (Ev.bind hw ?_)
    refine Ev.congr (fun k => if_neg (by show ¬ c = 0; omega)) ?_
    refine Ev.step (f := fun k => rosterref02_Tree.j1 k s ((walkS s).1.map plU) ((walkS s).1.map dep) c q) (fun k => by rw [rosterref02_Tree.j0, if_neg (by simp)]) ?_
    exact Ev.step (f := fun _ => some _) (fun k => by rw [rosterref02_Tree.j1, if_neg (by omega)]; rfl) (Ev.now _)
  | ok q =>
    rw [hr] at hw
    have e : walkS s = (l, .ok q) := by rw [← hl, ← hr]
    have ho := (elem_ok s (2 * s.size + 1)).1 0 s.size 1 q hr
    rw [e]
    simp only [treeR]
    have e2 : ∀ k, rosterref02_Tree.f k s = (rosterref02_walk.f k s).bind fun bt => (if bt.2.2.1 = 0 then (rosterref02_Tree.j0 k s bt.1 bt.2.1 bt.2.2.1 bt.2.2.2 (decide (bt.2.2.2 < (s.size : Int)))) else (rosterref02_Tree.j0 k s bt.1 bt.2.1 bt.2.2.1 bt.2.2.2 false)) := fun k => rfl
    refine Ev.congr e2 (Ev.bind hw ?_)
    simp only [if_true]
    by_cases c : q < (s.size : Int)
    · rw [if_pos c]
      refine Ev.step (f := fun k => rosterref02_Tree.j1 k s ((walkS s).1.map plU) ((walkS s).1.map dep) 27 q) (fun k => by rw [rosterref02_Tree.j0, if_pos (decide_eq_true c)]) ?_
      exact Ev.step (f := fun _ => some _) (fun k => by rw [rosterref02_Tree.j1, if_neg (by omega)]; rfl) (Ev.now _)
    · rw [if_neg c]
      refine Ev.step (f := fun k => rosterref02_Tree.j1 k s ((walkS s).1.map plU) ((walkS s).1.map dep) 0 q) (fun k => by rw [rosterref02_Tree.j0, if_neg (by simpa using c)]) ?_
      have hin' : ∀ x ∈ l, 0 ≤ x.at_ ∧ 0 ≤ x.head.len ∧ 2 ≤ x.head.size ∧ x.at_ + x.head.size + x.head.len ≤ (s.size : Int) := fun x hx => hin x (by rw [← hl] at hx; exact hx)
      have hlen : (([] ++ l : List Fnd).length : Int) ≤ 2097152 := by
        have hl' : (elemF s (2 * s.size + 1) 0 s.size 1).1 = l := hl
        rw [hl'] at ho
        simp only [List.nil_append]
        omega
      have ht := tree_l s hs l [] hlen hin'
      simp only [List.nil_append] at ht
      refine Ev.step (fun k => ?_) ht
      rw [rosterref02_Tree.j1, if_pos rfl, hl]
      rfl
end Go.Proofs.Ytbloccjogadlmaa.W
