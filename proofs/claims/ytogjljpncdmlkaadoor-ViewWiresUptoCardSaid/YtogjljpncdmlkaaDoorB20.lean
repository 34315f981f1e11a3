/- Texts of this claim in one: Rp, Rt, GVx5, Vr -/
import Derived.Test.YtogjljpncdmlkaaDoorB3
import Derived.Test.YtogjljpncdmlkaaDoorB4
import Derived.Test.YtogjljpncdmlkaaDoorB17
import Derived.Test.YtogjljpncdmlkaaDoorB18
import Derived.Test.YtogjljpncdmlkaaDoorB19
import Derived.Test.YtogjljpncdmlkaaDoorB8
import Derived.Test.YtogjljpncdmlkaaDoorB7
import Derived.Lib.Hide
import Derived.Lib.BufferOwn
import Derived.Lib.HexFns
section
namespace Go.Proofs.YtogjljpncdmlkaaDoor.W
open Go.RowKit Go.Proofs.YtogjljpncdmlkaaDoor.GR Go.Proofs.YtogjljpncdmlkaaDoorW.PrintWords Go.Proofs.YtogjljpncdmlkaaDoorW.PrintLast
set_option linter.unusedVariables false
set_option linter.unusedSimpArgs false
theorem wr64 (x : Int) (h0 : 0 ≤ x) (h1 : x < 9223372036854775808) : wrap64 x = x := by unfold wrap64; omega
theorem bnd2 {s : ByteArray} {p e d : Int} (hd : d ≤ 64) : bnd s p e d = match hdr s p e 2 with
    | .ok h => if e - p - h.size < h.len then .error (miss d, e) else .ok h
    | .error (c, q) => .error (if c = 26 then miss d else c, q) := by
  unfold bnd
  rw [hdr_as s p e d hd]
  cases hdr s p e 2 with
  | ok h => rfl
  | error x => rfl
theorem miss_two (d : Int) : miss d = 20 ∨ miss d = 26 := by unfold miss; split <;> simp
theorem whole_ok {s : ByteArray} {p e d : Int} {k : Hd} (h0 : 0 ≤ p) (he : e ≤ (s.size : Int)) (hs : s.size ≤ 4194304) (hd : d ≤ 64) (hb : bnd s p e d = .ok k) :
    rosterref02_whole.f s p e = some (k.cls, k.made, k.tag, k.len, k.size, 0, p) := by
  obtain ⟨b1, b2⟩ := bnd_ok hb
  obtain ⟨_, _, k3, k4, k5, k6, _⟩ := hdr_ok b1
  rw [bnd2 hd] at hb
  cases hh : hdr s p e 2 with
  | error x => rw [hh] at hb; cases hb
  | ok h =>
    rw [hh] at hb
    simp only at hb
    have hk : h = k := by
      split at hb
      · cases hb
      · injection hb
    subst hk
    unfold rosterref02_whole.f rosterref02_headAt.f
    rw [if_pos ⟨h0, he, q2_⟩, refOf_ok hh]
    simp only [Option.bind_some, if_true]
    rw [wr64 (p + h.size) q2_ q2_, wr64 _ q2_ q2_, if_neg q2_]
theorem whole_err {s : ByteArray} {p e d c q : Int} (h0 : 0 ≤ p) (he : e ≤ (s.size : Int)) (hs : s.size ≤ 4194304) (hd : d ≤ 64) (hb : bnd s p e d = .error (c, q)) :
    rosterref02_whole.f s p e = some (0, false, 0, 0, 0, if c = miss d then -1 else c, q) := by
  have hm := miss_two d
  rw [bnd2 hd] at hb
  cases hh : hdr s p e 2 with
  | error x =>
    obtain ⟨c', q'⟩ := x
    rw [hh] at hb
    simp only at hb
    injection hb with hb
    injection hb with h1 h2
    subst h2
    have hc := hdr_code hh
    unfold rosterref02_whole.f rosterref02_headAt.f
    rw [if_pos ⟨h0, he, q2_⟩, refOf_err hh]
    by_cases c1 : c' = 26
    · rw [if_pos c1] at h1
      simp only [c1, if_true, Option.bind_some]
      rw [if_neg q2_, if_pos h1.symm]
    · rw [if_neg c1] at h1
      simp only [c1, if_false, Option.bind_some]
      rw [if_neg q2_, if_neg q2_, h1]
  | ok h =>
    obtain ⟨_, k2, k3, k4, k5, k6, _⟩ := hdr_ok hh
    rw [hh] at hb
    simp only at hb
    unfold rosterref02_whole.f rosterref02_headAt.f
    rw [if_pos ⟨h0, he, q2_⟩, refOf_ok hh]
    simp only [Option.bind_some, if_true]
    rw [wr64 (p + h.size) q2_ q2_, wr64 _ q2_ q2_]
    by_cases c1 : e - p - h.size < h.len
    · rw [if_pos c1] at hb
      injection hb with hb
      injection hb with h1 h2
      rw [if_pos q2_, if_pos h1.symm, h2]
    · rw [if_neg c1] at hb
      cases hb
def nup (x : NodeT) : S43 := ⟨x.1, x.2.1, x.2.2.1, x.2.2.2.1, x.2.2.2.2⟩
def plU (x : Fnd) : S86 := ⟨x.at_, ⟨x.head.cls, x.head.made, x.head.tag, x.head.len, x.head.size⟩⟩
abbrev WR := List S86 × List Int × Int × Int
abbrev WEv (s : ByteArray) (l : List S86) (ds E : List Int) (p : Int) (r : WR) : Prop := Ev (fun k => rosterref02_walk.l1 k s l ds E p) r
theorem rd_last (E : List Int) (x : Int) (j : Int) (hj : j = (E.length : Int)) : rd (E ++ [x]) j = x := by
  subst hj
  unfold rd
  simp
theorem w_pop {s : ByteArray} {l : List S86} {ds E : List Int} {p : Int} {r : WR} (hE : E.length ≤ 1000) (h : WEv s l ds E p r) : WEv s l ds (E ++ [p]) p r := by
  refine Ev.step (fun k => ?_) h
  have w : wrap64 (((E ++ [p]).length : Nat) - 1 : Int) = E.length := by rw [List.length_append, List.length_singleton]; unfold wrap64; omega
  rw [rosterref02_walk.l1, w, if_pos q80_, if_pos q2_, if_pos q80_, rd_last E p _ rfl, if_pos rfl, if_pos q80_]
  congr 1
  simp
theorem w_l0 {s : ByteArray} {l : List S86} {ds E : List Int} {p : Int} {r : WR} (h : WEv s l ds E p r) : Ev (fun k => rosterref02_walk.l0 k s l ds E p) r :=
  Ev.step (fun k => by rw [rosterref02_walk.l0]) h
def Ctx (s : ByteArray) (l : List S86) (E : List Int) (p e : Int) : Prop :=
  (E = [] ∧ l = [] ∧ e = (s.size : Int)) ∨ (∃ E0, E = E0 ++ [e] ∧ p ≠ e ∧ l ≠ [])
theorem w_j4 {s : ByteArray} {l : List S86} {ds E : List Int} {p e : Int} {r : WR} (hE : E.length ≤ 1000) (hc : Ctx s l E p e) (h : Ev (fun k => rosterref02_walk.j4 k s l ds E p e) r) : WEv s l ds E p r := by
  rcases hc with ⟨rfl, rfl, rfl⟩ | ⟨E0, rfl, hne, hl⟩
  · refine Ev.step (f := fun k => rosterref02_walk.j2 k s [] ds [] p) (fun k => by rw [rosterref02_walk.l1]; simp) ?_
    refine Ev.step (f := fun k => rosterref02_walk.j3 k s [] ds [] p false) (fun k => by rw [rosterref02_walk.j2]; simp) ?_
    exact Ev.step (fun k => by rw [rosterref02_walk.j3]; simp) h
  · have hln : ((E0 ++ [e]).length : Int) = E0.length + 1 := by simp
    have w : wrap64 (((E0 ++ [e]).length : Nat) - 1 : Int) = E0.length := by rw [hln]; unfold wrap64; simp at hE; omega
    have hll : 0 < l.length := List.length_pos_iff.2 hl
    refine Ev.step (f := fun k => rosterref02_walk.j2 k s l ds (E0 ++ [e]) p) (fun k => by
      rw [rosterref02_walk.l1, w, if_pos q2_, if_pos q2_, if_pos q2_, rd_last E0 e _ rfl, if_neg (fun x => hne x.symm)]) ?_
    refine Ev.step (f := fun k => rosterref02_walk.j3 k s l ds (E0 ++ [e]) p false) (fun k => by
      rw [rosterref02_walk.j2, if_pos q2_]
      congr 1
      rw [beq_eq_false_iff_ne]
      omega) ?_
    exact Ev.step (fun k => by rw [rosterref02_walk.j3, if_neg q28_, w, if_pos q2_, if_pos q2_, if_pos q2_, rd_last E0 e _ rfl]) h
theorem w_err {s : ByteArray} {l : List S86} {ds E : List Int} {p e c q : Int} (hs : s.size ≤ 4194304) (h0 : 0 ≤ p) (he : e ≤ (s.size : Int)) (hE : E.length ≤ 1000) (hc : Ctx s l E p e) (hb : bnd s p e (E.length + 1) = .error (c, q)) :
    WEv s l ds E p (l, ds, c, q) := by
  refine w_j4 hE hc ?_
  have w : wrap64 ((E.length : Int) + 1) = E.length + 1 := wr64 _ q2_ q2_
  by_cases hd : (64 : Int) < E.length + 1
  · have hh : bnd s p e (E.length + 1) = .error (25, p) := by unfold bnd hdr; rw [if_pos hd]
    rw [hh] at hb
    injection hb with hb
    injection hb with h1 h2
    subst h1 h2
    refine Ev.step (f := fun _ => some _) (fun k => ?_) (Ev.now _)
    rw [rosterref02_walk.j4, w, if_pos q2_]
  · have he := bnd_err hb
    have hm : miss ((E.length : Int) + 1) = if l = [] then 20 else 26 := by
      rcases hc with ⟨rfl, rfl, rfl⟩ | ⟨E0, rfl, hne, hl⟩
      · rfl
      · rw [if_neg hl]
        unfold miss
        rw [if_neg q39_]
    have hj5 : ∀ (c : Int) (c1 : Int) (c2 : Bool) (c3 c4 c5 : Int), c ≠ 0 → Ev (fun k => rosterref02_walk.j5 k s l ds E p c q c1 c2 c3 c4 c5) (l, ds, c, q) := fun c c1 c2 c3 c4 c5 hcz =>
      Ev.step (f := fun _ => some _) (fun k => by rw [rosterref02_walk.j5, if_neg hcz]) (Ev.now _)
    have hw := whole_err h0 ‹_› hs q2_ hb
    by_cases hcm : c = miss ((E.length : Int) + 1)
    · rw [if_pos hcm] at hw
      refine Ev.step (f := fun k => rosterref02_walk.j5 k s l ds E p c q 0 false 0 0 0) (fun k => ?_) (hj5 _ _ _ _ _ _ q2_)
      rw [rosterref02_walk.j4, w, if_neg q2_, hw]
      simp only [Option.bind_some, if_true]
      rw [hcm, hm]
      by_cases hl : l = []
      · rw [if_pos (by rw [hl]; rfl), if_pos hl]
      · rw [if_neg (by have := List.length_pos_iff.2 hl; omega), if_neg hl]
    · rw [if_neg hcm] at hw
      refine Ev.step (f := fun k => rosterref02_walk.j5 k s l ds E p c q 0 false 0 0 0) (fun k => ?_) (hj5 _ _ _ _ _ _ q2_)
      rw [rosterref02_walk.j4, w, if_neg q2_, hw]
      simp only [Option.bind_some]
      rw [if_neg q2_]
theorem w_ok {s : ByteArray} {l : List S86} {ds E : List Int} {p e : Int} {h : Hd} {r : WR} (hs : s.size ≤ 4194304) (h0 : 0 ≤ p) (he : e ≤ (s.size : Int)) (hE : E.length ≤ 1000) (hl : (l.length : Int) ≤ p) (hds : ds.length = l.length) (hc : Ctx s l E p e) (hb : bnd s p e (E.length + 1) = .ok h)
    (hr : WEv s (l ++ [⟨p, ⟨h.cls, h.made, h.tag, h.len, h.size⟩⟩]) (ds ++ [(E.length : Int) + 1]) (E ++ [p + h.size + h.len]) (if h.made = true then p + h.size else p + h.size + h.len) r) : WEv s l ds E p r := by
  refine w_j4 hE hc ?_
  have w : wrap64 ((E.length : Int) + 1) = E.length + 1 := wr64 _ q2_ q2_
  obtain ⟨b1, b2⟩ := bnd_ok hb
  obtain ⟨k1, _, k3, k4, k5, k6, _⟩ := hdr_ok b1
  have hw := whole_ok h0 he hs q2_ hb
  have hr0 := w_l0 hr
  refine Ev.step (f := fun k => rosterref02_walk.j5 k s l ds E p 0 p h.cls h.made h.tag h.len h.size) (fun k => ?_) ?_
  · rw [rosterref02_walk.j4, w, if_neg q2_, hw]
    simp only [Option.bind_some]
    rw [if_neg q19_]
  · refine Ev.step (fun k => ?_) hr0
    rw [rosterref02_walk.j5, if_pos rfl, if_pos q2_]
    simp only [Option.bind_some]
    rw [if_pos q2_, if_pos q2_, w, wr64 (p + h.size) q2_ q2_, wr64 (p + h.size + h.len) q2_ q2_]
    cases h.made with
    | true => rfl
    | false => rfl
def dep (x : Fnd) : Int := x.depth
theorem w_elem (s : ByteArray) (hs : s.size ≤ 4194304) : ∀ n : Nat,
    (∀ (p e : Int) (l : List S86) (ds E : List Int), 0 ≤ p → e ≤ (s.size : Int) → E.length ≤ 64 → (l.length : Int) ≤ p → ds.length = l.length → Ctx s l E p e → 2 * (e - p) + 1 ≤ (n : Int) → 1 ≤ n →
      (∀ c q, (elemF s n p e (E.length + 1)).2 = .error (c, q) → WEv s l ds E p (l ++ (elemF s n p e (E.length + 1)).1.map plU, ds ++ (elemF s n p e (E.length + 1)).1.map dep, c, q)) ∧
      (∀ q r, (elemF s n p e (E.length + 1)).2 = .ok q → WEv s (l ++ (elemF s n p e (E.length + 1)).1.map plU) (ds ++ (elemF s n p e (E.length + 1)).1.map dep) E q r → WEv s l ds E p r)) ∧
    (∀ (p e : Int) (l : List S86) (ds E : List Int), 0 ≤ p → p ≤ e → e ≤ (s.size : Int) → E.length ≤ 63 → (l.length : Int) ≤ p → ds.length = l.length → l ≠ [] → 2 * (e - p) + 2 ≤ (n : Int) →
      (∀ c q, (elemsF s n p e (E.length + 2)).2 = .error (c, q) → WEv s l ds (E ++ [e]) p (l ++ (elemsF s n p e (E.length + 2)).1.map plU, ds ++ (elemsF s n p e (E.length + 2)).1.map dep, c, q)) ∧
      (∀ q r, (elemsF s n p e (E.length + 2)).2 = .ok q → WEv s (l ++ (elemsF s n p e (E.length + 2)).1.map plU) (ds ++ (elemsF s n p e (E.length + 2)).1.map dep) E e r → WEv s l ds (E ++ [e]) p r))
  | 0 => ⟨fun p e l ds E h0 he hE hl hd hc hn h1 => by omega, fun p e l ds E h0 hp he hE hl hd hln hn => by omega⟩
  | n + 1 => by
    obtain ⟨ih1, ih2⟩ := w_elem s hs n
    refine ⟨fun p e l ds E h0 he hE hl hd hc hn h1 => ?_, fun p e l ds E h0 hp he hE hl hd hln hn => ?_⟩
    · rw [elemF]
      cases hb : bnd s p e (E.length + 1) with
      | error x =>
        obtain ⟨c, q⟩ := x
        refine ⟨fun c' q' h => ?_, fun q' r h => (by cases h)⟩
        simp only at h
        injection h with h
        injection h with h1 h2
        subst h1 h2
        have := w_err (ds := ds) hs h0 he q2_ hc hb
        simpa using this
      | ok h =>
        obtain ⟨b1, b2⟩ := bnd_ok hb
        obtain ⟨k1, _, k3, k4, k5, k6, _⟩ := hdr_ok b1
        have hll : ((l ++ [(⟨p, ⟨h.cls, h.made, h.tag, h.len, h.size⟩⟩ : S86)]).length : Int) ≤ p + h.size := by rw [List.length_append, List.length_singleton]; omega
        have hdd : (ds ++ [(E.length : Int) + 1]).length = (l ++ [(⟨p, ⟨h.cls, h.made, h.tag, h.len, h.size⟩⟩ : S86)]).length := by simp [hd]
        cases hm : h.made with
        | true =>
          have e2 : ((E.length : Int) + 1 + 1) = E.length + 2 := by omega
          simp only [hm, if_true, e2]
          have hk := ih2 (p + h.size) (p + h.size + h.len) (l ++ [⟨p, ⟨h.cls, h.made, h.tag, h.len, h.size⟩⟩]) (ds ++ [(E.length : Int) + 1]) E q2_ q2_ q2_ q2_ hll hdd q28_ q2_
          refine ⟨fun c q he2 => ?_, fun q r he2 hr => ?_⟩
          · refine w_ok hs h0 he q2_ hl hd hc hb ?_
            rw [hm, if_pos rfl]
            have := hk.1 c q he2
            simp only [List.append_assoc, List.singleton_append, hm] at this
            simp only [List.map_cons, plU, dep, hm]
            exact this
          · refine w_ok hs h0 he q2_ hl hd hc hb ?_
            rw [hm, if_pos rfl]
            have hq : q = p + h.size + h.len := ((elem_ok s n).2 _ _ _ q q2_ he2).2
            subst hq
            have := hk.2 _ r he2 (by
              simp only [List.append_assoc, List.singleton_append, hm]
              simp only [List.map_cons, plU, dep, hm] at hr
              exact hr)
            rw [hm] at this
            exact this
        | false =>
          simp only [hm, Bool.false_eq_true, if_false]
          refine ⟨fun c q he2 => (by cases he2), fun q r he2 hr => ?_⟩
          injection he2 with he2
          subst he2
          refine w_ok hs h0 he q2_ hl hd hc hb ?_
          rw [hm, if_neg q28_]
          refine w_pop q2_ ?_
          simp only [List.map_cons, List.map_nil, plU, dep, hm] at hr
          exact hr
    · rw [elemsF]
      by_cases c1 : p < e
      · rw [if_pos c1]
        have hd2 : ((E ++ [e]).length : Int) + 1 = E.length + 2 := by rw [List.length_append, List.length_singleton]; omega
        have hk := ih1 p e l ds (E ++ [e]) h0 he q80_ hl hd (.inr ⟨E, rfl, q2_, hln⟩) q2_ q2_
        rw [hd2] at hk
        cases hr1 : (elemF s n p e (E.length + 2)).2 with
        | error x =>
          obtain ⟨c, q⟩ := x
          refine ⟨fun c' q' h => ?_, fun q' r h => (by cases h)⟩
          simp only at h
          injection h with h
          injection h with h1 h2
          subst h1 h2
          exact hk.1 _ _ hr1
        | ok q =>
          have ho := (elem_ok s n).1 p e _ q hr1
          have hk2 := ih2 q e (l ++ (elemF s n p e (E.length + 2)).1.map plU) (ds ++ (elemF s n p e (E.length + 2)).1.map dep) E q2_ q2_ he hE (by rw [List.length_append, List.length_map]; omega) (by simp [hd]) (by simp [hln]) q2_
          simp only
          refine ⟨fun c' q' h => ?_, fun q' r h hr => ?_⟩
          · refine hk.2 q _ hr1 ?_
            have := hk2.1 c' q' h
            simp only [List.append_assoc, ← List.map_append] at this ⊢
            exact this
          · refine hk.2 q _ hr1 ?_
            refine hk2.2 q' r h ?_
            simp only [List.append_assoc, ← List.map_append] at hr ⊢
            exact hr
      · rw [if_neg c1]
        have : p = e := by omega
        subst this
        refine ⟨fun c' q' h => (by cases h), fun q' r h hr => w_pop q2_ (by simpa using hr)⟩
def walkU (s : ByteArray) : WR := match (walkS s).2 with
  | .error x => ((walkS s).1.map plU, (walkS s).1.map dep, x.1, x.2)
  | .ok q => ((walkS s).1.map plU, (walkS s).1.map dep, 0, q)
theorem walk_f (s : ByteArray) (hs : s.size ≤ 2097152) : Ev (fun k => rosterref02_walk.f k s) (walkU s) := by
  refine Ev.congr (f := fun k => rosterref02_walk.l0 k s [] [] [] 0) (fun k => by rw [rosterref02_walk.f]) (w_l0 ?_)
  have hk := (w_elem s q2_ (2 * s.size + 1)).1 0 s.size [] [] [] q2_ q2_ q28_ q28_ rfl (.inl ⟨rfl, rfl, rfl⟩) q2_ q2_
  have e1 : elemF s (2 * s.size + 1) 0 s.size ((([] : List Int).length : Int) + 1) = walkS s := rfl
  rw [e1] at hk
  unfold walkU
  cases hr : (walkS s).2 with
  | error x =>
    obtain ⟨c, q⟩ := x
    have := hk.1 c q hr
    simpa using this
  | ok q =>
    refine hk.2 q _ hr ?_
    have hne : 0 < ((walkS s).1.map plU).length := by
      have h : (elemF s (2 * s.size + 1) 0 s.size 1).2 = .ok q := hr
      have hl : 0 < (elemF s (2 * s.size + 1) 0 s.size 1).1.length := by
        rw [elemF] at h ⊢
        cases hb : bnd s 0 s.size 1 with
        | error x => rw [hb] at h; cases h
        | ok k =>
          simp only
          cases k.made <;> simp
      rw [List.length_map]
      exact hl
    simp only [List.nil_append]
    refine Ev.step (f := fun k => rosterref02_walk.j2 k s ((walkS s).1.map plU) ((walkS s).1.map dep) [] q) (fun k => by rw [rosterref02_walk.l1]; simp) ?_
    refine Ev.step (f := fun k => rosterref02_walk.j3 k s ((walkS s).1.map plU) ((walkS s).1.map dep) [] q true) (fun k => by rw [rosterref02_walk.j2, if_pos q2_]; simp) ?_
    exact Ev.step (f := fun _ => some _) (fun k => by rw [rosterref02_walk.j3, if_pos rfl]) (Ev.now _)
theorem getD_mid {α β : Type} (f : α → β) (d : β) (pre suf : List α) (x : α) (i : Int) (hi : i = (pre.length : Int)) : ((pre ++ x :: suf).map f).getD i.toNat d = f x := by
  subst hi
  simp
theorem tree_l (s : ByteArray) (hs : s.size ≤ 2097152) : ∀ (suf pre : List Fnd), ((pre ++ suf).length : Int) ≤ 2097152 →
    (∀ x ∈ suf, 0 ≤ x.at_ ∧ 0 ≤ x.head.len ∧ 2 ≤ x.head.size ∧ x.at_ + x.head.size + x.head.len ≤ (s.size : Int)) →
    Ev (fun k => rosterref02_Tree.l0 k s ((pre ++ suf).map plU) ((pre ++ suf).map dep) ((pre.map (nodeOf s)).map nup) pre.length) (((pre ++ suf).map (nodeOf s)).map nup, 0, 0) := by
  intro suf
  induction suf with
  | nil =>
    intro pre hl hx
    refine Ev.step (f := fun _ => some _) (fun k => ?_) (Ev.now _)
    rw [rosterref02_Tree.l0, if_neg q28_]
    simp
  | cons x suf ih =>
    intro pre hl hx
    have hb := hx x q28_
    have hll : (pre.length : Int) + 1 + suf.length ≤ 2097152 := by simp at hl; omega
    have q1 : (pre.length : Int) < (((pre ++ x :: suf).map plU).length : Int) := by rw [List.length_map, List.length_append, List.length_cons]; omega
    have q2 : (0 : Int) ≤ (pre.length : Int) := by omega
    have q3 : (pre.length : Int) < (((pre ++ x :: suf).map dep).length : Int) := by rw [List.length_map, List.length_append, List.length_cons]; omega
    have q4 : ((pre.map (nodeOf s)).map nup).length < 2932031007402 := by rw [List.length_map, List.length_map]; omega
    have q5 : 0 ≤ x.at_ + x.head.size := by omega
    have q6 : x.at_ + x.head.size ≤ x.at_ + x.head.size + x.head.len := by omega
    have q7 : x.at_ + x.head.size + x.head.len ≤ (s.size : Int) := by omega
    have r1 : rd ((pre ++ x :: suf).map dep) (pre.length : Int) = x.depth := getD_mid dep 0 pre suf x _ rfl
    have r2 : rd_T86 ((pre ++ x :: suf).map plU) (pre.length : Int) = plU x := getD_mid plU _ pre suf x _ rfl
    have w1 : wrap64 ((pre.length : Int) + 1) = pre.length + 1 := wr64 _ q2_ q2_
    have w2 : wrap64 (x.at_ + x.head.size) = x.at_ + x.head.size := wr64 _ q2_ q2_
    have w3 : wrap64 (x.at_ + x.head.size + x.head.len) = x.at_ + x.head.size + x.head.len := wr64 _ q2_ q2_
    have hn := ih (pre ++ [x]) (by simpa using hl) (fun y hy => hx y (by simp [hy]))
    have e1 : pre ++ [x] ++ suf = pre ++ x :: suf := by simp
    have e2 : ((pre ++ [x]).length : Int) = pre.length + 1 := by simp
    have e3 : ((pre ++ [x]).map (nodeOf s)).map nup = (pre.map (nodeOf s)).map nup ++ [nup (nodeOf s x)] := by simp
    rw [e1, e2, e3] at hn
    refine Ev.step (fun k => ?_) hn
    rw [rosterref02_Tree.l0, if_pos q1, if_pos q2, if_pos q3, r1, r2]
    simp only [plU, w1, w2, w3]
    cases hm : x.head.made with
    | true =>
      rw [if_pos rfl, if_pos q4]
      have : nup (nodeOf s x) = ⟨x.depth, x.head.cls, true, x.head.tag, ⟨#[]⟩⟩ := by unfold nup nodeOf; rw [hm]; rfl
      rw [this]
    | false =>
      rw [if_neg q28_, if_pos q5, if_pos q6, if_pos q7, if_pos q4]
      have : nup (nodeOf s x) = ⟨x.depth, x.head.cls, false, x.head.tag, s.extract (x.at_ + x.head.size).toNat (x.at_ + x.head.size + x.head.len).toNat⟩ := by unfold nup nodeOf; rw [hm]; rfl
      rw [this]
theorem refTree_f (s : ByteArray) (hs : s.size ≤ 2097152) : ∃ k, rosterref02_Tree.f k s = some ((treeS s).1.map nup, (treeS s).2.1, (treeS s).2.2) := by
  refine Ev.rounds (g := fun k => rosterref02_Tree.f k s) ?_
  have hin := (elem_in s (2 * s.size + 1)).1 0 s.size 1
  have hw := walk_f s hs
  unfold walkU at hw
  unfold treeS
  obtain ⟨l, hl⟩ : ∃ l, (walkS s).1 = l := ⟨_, rfl⟩
  cases hr : (walkS s).2 with
  | error x =>
    obtain ⟨c, q⟩ := x
    have hc := (elem_err s (2 * s.size + 1)).1 0 s.size 1 c q q2_ q2_ hr
    rw [hr] at hw
    have e : walkS s = (l, .error (c, q)) := by rw [← hl, ← hr]
    rw [e]
    simp only [treeR]
    have e2 : ∀ k, rosterref02_Tree.f k s = (rosterref02_walk.f k s).bind fun bt => (if bt.2.2.1 = 0 then (rosterref02_Tree.j0 k s bt.1 bt.2.1 bt.2.2.1 bt.2.2.2 (decide (bt.2.2.2 < (s.size : Int)))) else (rosterref02_Tree.j0 k s bt.1 bt.2.1 bt.2.2.1 bt.2.2.2 false)) := fun k => rfl
    refine Ev.congr e2 (Ev.bind hw ?_)
    refine Ev.congr (fun k => if_neg (by show ¬ c = 0; omega)) ?_
    refine Ev.step (f := fun k => rosterref02_Tree.j1 k s ((walkS s).1.map plU) ((walkS s).1.map dep) c q) (fun k => by rw [rosterref02_Tree.j0, if_neg q28_]) ?_
    exact Ev.step (f := fun _ => some _) (fun k => by rw [rosterref02_Tree.j1, if_neg q2_]; rfl) (Ev.now _)
  | ok q =>
    rw [hr] at hw
    have e : walkS s = (l, .ok q) := by rw [← hl, ← hr]
    have ho := (elem_ok s (2 * s.size + 1)).1 0 s.size 1 q hr
    rw [e]
    simp only [treeR]
    have e2 : ∀ k, rosterref02_Tree.f k s = (rosterref02_walk.f k s).bind fun bt => (if bt.2.2.1 = 0 then (rosterref02_Tree.j0 k s bt.1 bt.2.1 bt.2.2.1 bt.2.2.2 (decide (bt.2.2.2 < (s.size : Int)))) else (rosterref02_Tree.j0 k s bt.1 bt.2.1 bt.2.2.1 bt.2.2.2 false)) := fun k => rfl
    refine Ev.congr e2 (Ev.bind hw ?_)
    simp only [if_true]
    by_cases c : q < (s.size : Int)
    · rw [if_pos c]
      refine Ev.step (f := fun k => rosterref02_Tree.j1 k s ((walkS s).1.map plU) ((walkS s).1.map dep) 27 q) (fun k => by rw [rosterref02_Tree.j0, if_pos (decide_eq_true c)]) ?_
      exact Ev.step (f := fun _ => some _) (fun k => by rw [rosterref02_Tree.j1, if_neg q2_]; rfl) (Ev.now _)
    · rw [if_neg c]
      refine Ev.step (f := fun k => rosterref02_Tree.j1 k s ((walkS s).1.map plU) ((walkS s).1.map dep) 0 q) (fun k => by rw [rosterref02_Tree.j0, if_neg (by simpa using c)]) ?_
      have hin' : ∀ x ∈ l, 0 ≤ x.at_ ∧ 0 ≤ x.head.len ∧ 2 ≤ x.head.size ∧ x.at_ + x.head.size + x.head.len ≤ (s.size : Int) := fun x hx => hin x (by rw [← hl] at hx; exact hx)
      have hlen : (([] ++ l : List Fnd).length : Int) ≤ 2097152 := by
        have hl' : (elemF s (2 * s.size + 1) 0 s.size 1).1 = l := hl
        rw [hl'] at ho
        simp only [List.nil_append]
        omega
      have ht := tree_l s hs l [] hlen hin'
      simp only [List.nil_append] at ht
      refine Ev.step (fun k => ?_) ht
      rw [rosterref02_Tree.j1, if_pos rfl, hl]
      rfl
end Go.Proofs.YtogjljpncdmlkaaDoor.W
end
section
namespace Go.Proofs.YtogjljpncdmlkaaDoor.W
open Go.RowKit Go.Proofs.YtogjljpncdmlkaaDoor.GR Go.Proofs.YtogjljpncdmlkaaDoorW.PrintWords Go.Proofs.YtogjljpncdmlkaaDoorW.PrintLast
set_option linter.unusedVariables false
set_option linter.unusedSimpArgs false
theorem R_back {α β : Type} {d : Kd α} {f : β → α} {e : Nat} {w : World} {base : Nat} {ok : Nat → Prop} {v : Value} {xs : List α} (g : α → β) (hfg : ∀ x, f (g x) = x)
    (h : Kd.R (Kd.iso d f) e w base ok v (xs.map g)) : Kd.R d e w base ok v xs := by
  rw [R_iso, List.map_map] at h
  have : (f ∘ g) = id := funext hfg
  rwa [this, List.map_id] at h
theorem refTree_any (s : ByteArray) (w : World) (hs : s.size ≤ 2097152) :
    Calls Tryd.prog 27 #[.string s] w fun en w' => ∃ v0_ : Value, en = .returned (.tuple #[v0_, .int .i64 (treeS s).2.1, .int .i64 (treeS s).2.2]) ∧ Kd.R kNode 43 w' w.heap.size (fun _ => True) v0_ (treeS s).1 ∧ Below w.heap.size w w' := by
  obtain ⟨k, hk⟩ := refTree_f s hs
  refine (rosterref02_Tree.calls k s _ _ _ w hk).mono ?_
  rintro en w' ⟨v, h1, h2, h3⟩
  exact ⟨v, h1, R_back (d := kNode) nup (fun _ => rfl) h2, h3⟩
end Go.Proofs.YtogjljpncdmlkaaDoor.W
end
section
namespace Go.Proofs.YtogjljpncdmlkaaDoor.GV
open Go.RowKit Go.Proofs.YtogjljpncdmlkaaDoorW.PrintWords Go.Proofs.YtogjljpncdmlkaaDoorW.PrintLast Go.Proofs.YtogjljpncdmlkaaDoorW.PrintMore
attribute [local go_sem] max2_int min2_int max_two min_two max_three min_three max_four min_four   -- for this text's walks alone
set_option linter.unusedVariables false
set_option linter.unusedSimpArgs false
attribute [local go_sem high] eqA25
def rosterlaw22_sameKeys.l0 : Nat → List (S25) → List (S25) → Int → Option (Bool)
 | 0, _, _, _ => none
 | k + 1, x0, x1, x5 => if x5 < (x0.length : Int) then (if 0 ≤ x5 then (if x5 < (x1.length : Int) then (if (!((((rd_T25 x0 x5).f0).toList) == (((rd_T25 x1 x5).f0).toList)) || (!((((rd_T25 x0 x5).f1).toList) == (((rd_T25 x1 x5).f1).toList)) || (!(((rd_T25 x0 x5).f2) == ((rd_T25 x1 x5).f2))))) = true then (some false) else (rosterlaw22_sameKeys.l0 k x0 x1 (wrap64 (x5 + 1)))) else (none)) else (none)) else (some true)
def rosterlaw22_sameKeys.f (k : Nat) (l0 : List (S25)) (l1 : List (S25)) : Option (Bool) := if (l0.length : Int) = (l1.length : Int) then (rosterlaw22_sameKeys.l0 k l0 l1 0) else (some false)
set_option maxHeartbeats 8000000 in
set_option maxRecDepth 100000 in
theorem rosterlaw22_sameKeys.calls (k : Nat) (A0 : Option Addr) (c0 : Nat) (l0 : List (S25)) (A1 : Option Addr) (c1 : Nat) (l1 : List (S25)) (r : Bool) (w : World) (hr0 : Kd.C k25 w A0 l0.length l0) (hc0 : l0.length ≤ c0) (hr1 : Kd.C k25 w A1 l1.length l1) (hc1 : l1.length ≤ c1) (h : rosterlaw22_sameKeys.f k l0 l1 = some r) :
  Calls Tryd.prog 8 #[.slice A0 l0.length c0, .slice A1 l1.length c1] w fun e w' => e = .returned (.bool r) ∧ Drawn0 w w' := by
 have hu25 := Tryd.underlying25
 have HR0 := Aside0.mk hr0
 have HC0 := Aside0.mk hc0
 clear hr0 hc0
 have HR1 := Aside0.mk hr1
 have HC1 := Aside0.mk hc1
 clear hr1 hc1
 have H : (if (l0.length : Int) = (l1.length : Int) then (rosterlaw22_sameKeys.l0 k l0 l1 0) else (some false)) = some r := h
 clear h
 by_cases c3 : (l0.length : Int) = (l1.length : Int)
 ·rw [if_pos c3] at H
  have c3b0 : ((l0.length : Int) == (l1.length : Int)) = true := beq_iff_eq.mpr c3
  have c3b1 : ((l0.length : Int) != (l1.length : Int)) = false := bne_eq_false_iff_eq.mpr c3
  have c3b2 : (l0.length == l1.length) = true := by first | simpa using c3 | (simp at c3 ⊢; omega)
  clear c3
  have H' := Aside0.mk H
  clear H
  go_enter Tryd.func8, Tryd.ntmps8
  go_wp2
  repeat (go_quiet (fail); try go_wp2)
  go_loopg [5] k (fun kq v5 w' => ∃ (x5_1 : Int), v5 = .int .i64 x5_1 ∧ Aside0 (rosterlaw22_sameKeys.l0 kq l0 l1 x5_1 = some r) ∧ Aside0 (kq ≤ k) ∧ Drawn0 w w')
  case atStart => exact ⟨(0), q3_, H', ⟨Nat.le_refl _⟩, q30_⟩
  case round =>
   clear H'
   try clear c1
   try clear p2
   try clear c3
   try clear c3b0
   try clear c3b1
   try clear c3b2
   obtain ⟨x5_1, rfl, HA, HK1, ⟨m1, rfl⟩⟩ := hrel
   cases gk with
   | zero => exact absurd HA.out (by simp [rosterlaw22_sameKeys.l0])
   | succ k1 =>
    have H := HA.out
    clear HA
    simp only [rosterlaw22_sameKeys.l0] at H
    by_cases c4 : x5_1 < (l0.length : Int)
    ·rw [if_pos c4] at H
     have c4b0 : decide (x5_1 < (l0.length : Int)) = true := decide_eq_true c4
     clear c4
     by_cases c5 : 0 ≤ x5_1
     ·rw [if_pos c5] at H
      have c5b0 : decide (0 ≤ x5_1) = true := decide_eq_true c5
      clear c5
      by_cases c6 : x5_1 < (l1.length : Int)
      ·rw [if_pos c6] at H
       have c6b0 : decide (x5_1 < (l1.length : Int)) = true := decide_eq_true c6
       clear c6
       by_cases c7 : (!((((rd_T25 l0 x5_1).f0).toList) == (((rd_T25 l1 x5_1).f0).toList)) || (!((((rd_T25 l0 x5_1).f1).toList) == (((rd_T25 l1 x5_1).f1).toList)) || (!(((rd_T25 l0 x5_1).f2) == ((rd_T25 l1 x5_1).f2))))) = true
       ·rw [if_pos c7] at H
        have c7b0 : (!((((rd_T25 l0 x5_1).f0).toList) == (((rd_T25 l1 x5_1).f0).toList)) || (!((((rd_T25 l0 x5_1).f1).toList) == (((rd_T25 l1 x5_1).f1).toList)) || (!(((rd_T25 l0 x5_1).f2) == ((rd_T25 l1 x5_1).f2))))) = true := c7
        clear c7
        obtain rfl := Option.some.inj H
        have p216 : 0 ≤ (x5_1 : Int) := of_decide_eq_true q6_
        have q216 : x5_1 < (l0.length : Int) := of_decide_eq_true q6_
        obtain ⟨ad216, e216, hx216_0, hx216_1, hx216_2⟩ := at_T25 HR0.out x5_1 p216 q216
        cases e216
        replace p216 := eq_true p216
        replace q216 := eq_true q216
        have p217 : 0 ≤ (x5_1 : Int) := of_decide_eq_true q6_
        have q217 : x5_1 < (l1.length : Int) := of_decide_eq_true q6_
        obtain ⟨ad217, e217, hx217_0, hx217_1, hx217_2⟩ := at_T25 HR1.out x5_1 p217 q217
        cases e217
        replace p217 := eq_true p217
        replace q217 := eq_true q217
        go_wp2
        repeat (go_quiet (fail); try go_wp2)
        go_ret
        exact ⟨q3_, q30_⟩
       ·rw [if_neg c7] at H
        have c7b0 : (!((((rd_T25 l0 x5_1).f0).toList) == (((rd_T25 l1 x5_1).f0).toList)) || (!((((rd_T25 l0 x5_1).f1).toList) == (((rd_T25 l1 x5_1).f1).toList)) || (!(((rd_T25 l0 x5_1).f2) == ((rd_T25 l1 x5_1).f2))))) = false := by simpa using c7
        clear c7
        have H' := Aside0.mk H
        clear H
        have p216 : 0 ≤ (x5_1 : Int) := of_decide_eq_true q6_
        have q216 : x5_1 < (l0.length : Int) := of_decide_eq_true q6_
        obtain ⟨ad216, e216, hx216_0, hx216_1, hx216_2⟩ := at_T25 HR0.out x5_1 p216 q216
        cases e216
        replace p216 := eq_true p216
        replace q216 := eq_true q216
        have p217 : 0 ≤ (x5_1 : Int) := of_decide_eq_true q6_
        have q217 : x5_1 < (l1.length : Int) := of_decide_eq_true q6_
        obtain ⟨ad217, e217, hx217_0, hx217_1, hx217_2⟩ := at_T25 HR1.out x5_1 p217 q217
        cases e217
        replace p217 := eq_true p217
        replace q217 := eq_true q217
        go_wp2
        repeat (go_quiet (fail); try go_wp2)
        go_roundg k1
        case measure => have := HK1.out; omega
        case rel => exact ⟨(wrap64 (x5_1 + 1)), q3_, H', ⟨q75_⟩, q30_⟩
      ·rw [if_neg c6] at H
       exact absurd H q28_
     ·rw [if_neg c5] at H
      exact absurd H q28_
    ·rw [if_neg c4] at H
     have c4b0 : decide (x5_1 < (l0.length : Int)) = false := decide_eq_false c4
     clear c4
     obtain rfl := Option.some.inj H
     go_wp2
     repeat (go_quiet (fail); try go_wp2)
     go_ret
     exact ⟨q3_, q30_⟩
 ·rw [if_neg c3] at H
  have c3b0 : ((l0.length : Int) == (l1.length : Int)) = false := beq_eq_false_iff_ne.mpr c3
  have c3b1 : ((l0.length : Int) != (l1.length : Int)) = true := bne_iff_ne.mpr c3
  have c3b2 : (l0.length == l1.length) = false := by first | simpa using c3 | (simp at c3 ⊢; omega)
  obtain rfl := Option.some.inj H
  go_enter Tryd.func8, Tryd.ntmps8
  go_wp2
  repeat (go_quiet (fail); try go_wp2)
  go_ret
  exact ⟨q3_, q30_⟩
def rosterref02_Tree.up (x : W.NodeT) : S43 := ⟨x.1, x.2.1, x.2.2.1, x.2.2.2.1, x.2.2.2.2⟩
def rosterref02_Tree.f (a0 : ByteArray) : Option (List S43 × Int × Int) :=
 if a0.size ≤ 2097152 then some ((W.treeS a0).1.map rosterref02_Tree.up, (W.treeS a0).2.1, (W.treeS a0).2.2) else none
theorem rosterref02_Tree.calls (a0 : ByteArray) (r1 : List S43) (r2 : Int) (r3 : Int) (w : World) (h : rosterref02_Tree.f a0 = some (r1, r2, r3)) :
  Calls Tryd.prog 27 #[.string a0] w fun e w' => ∃ v0_ : Value, e = .returned (.tuple #[v0_, .int .i64 r2, .int .i64 r3]) ∧ Kd.R k43 43 w' w.heap.size (fun _ => True) v0_ r1 ∧ Below w.heap.size w w' := by
 unfold rosterref02_Tree.f at h
 by_cases c : a0.size ≤ 2097152
 ·rw [if_pos c] at h
  simp only [Option.some.injEq, Prod.mk.injEq] at h
  obtain ⟨rfl, rfl, rfl⟩ := h
  refine (W.refTree_any a0 w c).mono ?_
  rintro e w' ⟨v, h1, h2, h3⟩
  exact ⟨v, h1, W.R_of_map (d := W.kNode) rosterref02_Tree.up (fun _ => rfl) h2, h3⟩
 ·rw [if_neg c] at h
  cases h
def rosterref22_is.f (l0 : List (S43)) (a1 : Int) (a2 : Int) (a3 : Int) (a4 : Int) (a5 : Bool) : Option (Bool) := if a1 < (l0.length : Int) then (if 0 ≤ a1 then (if ((rd_T43 l0 a1).f0) = a2 then (if ((rd_T43 l0 a1).f1) = a3 then (if ((rd_T43 l0 a1).f3) = a4 then (some (((rd_T43 l0 a1).f2) == a5)) else (some false)) else (some false)) else (some false)) else (none)) else (some false)
set_option maxHeartbeats 8000000 in
set_option maxRecDepth 100000 in
theorem rosterref22_is.calls (A0 : Option Addr) (c0 : Nat) (l0 : List (S43)) (a1 : Int) (a2 : Int) (a3 : Int) (a4 : Int) (a5 : Bool) (r : Bool) (w : World) (hr0 : Kd.C k43 w A0 l0.length l0) (hc0 : l0.length ≤ c0) (h : rosterref22_is.f l0 a1 a2 a3 a4 a5 = some r) :
  Calls Tryd.prog 28 #[.slice A0 l0.length c0, .int .i64 a1, .int .i64 a2, .int .i64 a3, .int .i64 a4, .bool a5] w fun e w' => e = .returned (.bool r) ∧ Drawn0 w w' := by
 have HR0 := Aside0.mk hr0
 have HC0 := Aside0.mk hc0
 clear hr0 hc0
 have H : (if a1 < (l0.length : Int) then (if 0 ≤ a1 then (if ((rd_T43 l0 a1).f0) = a2 then (if ((rd_T43 l0 a1).f1) = a3 then (if ((rd_T43 l0 a1).f3) = a4 then (some (((rd_T43 l0 a1).f2) == a5)) else (some false)) else (some false)) else (some false)) else (none)) else (some false)) = some r := h
 clear h
 by_cases c7 : a1 < (l0.length : Int)
 ·rw [if_pos c7] at H
  have c7b0 : decide (a1 < (l0.length : Int)) = true := decide_eq_true c7
  clear c7
  by_cases c8 : 0 ≤ a1
  ·rw [if_pos c8] at H
   have c8b0 : decide (0 ≤ a1) = true := decide_eq_true c8
   clear c8
   by_cases c9 : ((rd_T43 l0 a1).f0) = a2
   ·rw [if_pos c9] at H
    have c9b0 : (((rd_T43 l0 a1).f0) == a2) = true := beq_iff_eq.mpr c9
    have c9b1 : (((rd_T43 l0 a1).f0) != a2) = false := bne_eq_false_iff_eq.mpr c9
    clear c9
    by_cases c10 : ((rd_T43 l0 a1).f1) = a3
    ·rw [if_pos c10] at H
     have c10b0 : (((rd_T43 l0 a1).f1) == a3) = true := beq_iff_eq.mpr c10
     have c10b1 : (((rd_T43 l0 a1).f1) != a3) = false := bne_eq_false_iff_eq.mpr c10
     clear c10
     by_cases c11 : ((rd_T43 l0 a1).f3) = a4
     ·rw [if_pos c11] at H
      have c11b0 : (((rd_T43 l0 a1).f3) == a4) = true := beq_iff_eq.mpr c11
      have c11b1 : (((rd_T43 l0 a1).f3) != a4) = false := bne_eq_false_iff_eq.mpr c11
      clear c11
      obtain rfl := Option.some.inj H
      have p218 : 0 ≤ (a1 : Int) := of_decide_eq_true q6_
      have q218 : a1 < (l0.length : Int) := of_decide_eq_true q6_
      obtain ⟨ad218, e218, hx218_0, hx218_1, hx218_2, hx218_3, hx218_4⟩ := at_T43 HR0.out a1 p218 q218
      cases e218
      replace p218 := eq_true p218
      replace q218 := eq_true q218
      have p219 : 0 ≤ (a1 : Int) := of_decide_eq_true q6_
      have q219 : a1 < (l0.length : Int) := of_decide_eq_true q6_
      obtain ⟨ad219, e219, hx219_0, hx219_1, hx219_2, hx219_3, hx219_4⟩ := at_T43 HR0.out a1 p219 q219
      obtain rfl : ad218 = ad219 := (by injection e219)
      replace p219 := eq_true p219
      replace q219 := eq_true q219
      have p220 : 0 ≤ (a1 : Int) := of_decide_eq_true q6_
      have q220 : a1 < (l0.length : Int) := of_decide_eq_true q6_
      obtain ⟨ad220, e220, hx220_0, hx220_1, hx220_2, hx220_3, hx220_4⟩ := at_T43 HR0.out a1 p220 q220
      obtain rfl : ad218 = ad220 := (by injection e220)
      replace p220 := eq_true p220
      replace q220 := eq_true q220
      have p221 : 0 ≤ (a1 : Int) := of_decide_eq_true q6_
      have q221 : a1 < (l0.length : Int) := of_decide_eq_true q6_
      obtain ⟨ad221, e221, hx221_0, hx221_1, hx221_2, hx221_3, hx221_4⟩ := at_T43 HR0.out a1 p221 q221
      obtain rfl : ad218 = ad221 := (by injection e221)
      replace p221 := eq_true p221
      replace q221 := eq_true q221
      go_enter Tryd.func28, Tryd.ntmps28
      go_wp2
      go_ret
      exact ⟨q3_, q30_⟩
     ·rw [if_neg c11] at H
      have c11b0 : (((rd_T43 l0 a1).f3) == a4) = false := beq_eq_false_iff_ne.mpr c11
      have c11b1 : (((rd_T43 l0 a1).f3) != a4) = true := bne_iff_ne.mpr c11
      obtain rfl := Option.some.inj H
      have p218 : 0 ≤ (a1 : Int) := of_decide_eq_true q6_
      have q218 : a1 < (l0.length : Int) := of_decide_eq_true q6_
      obtain ⟨ad218, e218, hx218_0, hx218_1, hx218_2, hx218_3, hx218_4⟩ := at_T43 HR0.out a1 p218 q218
      cases e218
      replace p218 := eq_true p218
      replace q218 := eq_true q218
      have p219 : 0 ≤ (a1 : Int) := of_decide_eq_true q6_
      have q219 : a1 < (l0.length : Int) := of_decide_eq_true q6_
      obtain ⟨ad219, e219, hx219_0, hx219_1, hx219_2, hx219_3, hx219_4⟩ := at_T43 HR0.out a1 p219 q219
      obtain rfl : ad218 = ad219 := (by injection e219)
      replace p219 := eq_true p219
      replace q219 := eq_true q219
      have p220 : 0 ≤ (a1 : Int) := of_decide_eq_true q6_
      have q220 : a1 < (l0.length : Int) := of_decide_eq_true q6_
      obtain ⟨ad220, e220, hx220_0, hx220_1, hx220_2, hx220_3, hx220_4⟩ := at_T43 HR0.out a1 p220 q220
      obtain rfl : ad218 = ad220 := (by injection e220)
      replace p220 := eq_true p220
      replace q220 := eq_true q220
      go_enter Tryd.func28, Tryd.ntmps28
      go_wp2
      go_ret
      exact ⟨q3_, q30_⟩
    ·rw [if_neg c10] at H
     have c10b0 : (((rd_T43 l0 a1).f1) == a3) = false := beq_eq_false_iff_ne.mpr c10
     have c10b1 : (((rd_T43 l0 a1).f1) != a3) = true := bne_iff_ne.mpr c10
     obtain rfl := Option.some.inj H
     have p218 : 0 ≤ (a1 : Int) := of_decide_eq_true q6_
     have q218 : a1 < (l0.length : Int) := of_decide_eq_true q6_
     obtain ⟨ad218, e218, hx218_0, hx218_1, hx218_2, hx218_3, hx218_4⟩ := at_T43 HR0.out a1 p218 q218
     cases e218
     replace p218 := eq_true p218
     replace q218 := eq_true q218
     have p219 : 0 ≤ (a1 : Int) := of_decide_eq_true q6_
     have q219 : a1 < (l0.length : Int) := of_decide_eq_true q6_
     obtain ⟨ad219, e219, hx219_0, hx219_1, hx219_2, hx219_3, hx219_4⟩ := at_T43 HR0.out a1 p219 q219
     obtain rfl : ad218 = ad219 := (by injection e219)
     replace p219 := eq_true p219
     replace q219 := eq_true q219
     go_enter Tryd.func28, Tryd.ntmps28
     go_wp2
     go_ret
     exact ⟨q3_, q30_⟩
   ·rw [if_neg c9] at H
    have c9b0 : (((rd_T43 l0 a1).f0) == a2) = false := beq_eq_false_iff_ne.mpr c9
    have c9b1 : (((rd_T43 l0 a1).f0) != a2) = true := bne_iff_ne.mpr c9
    obtain rfl := Option.some.inj H
    have p218 : 0 ≤ (a1 : Int) := of_decide_eq_true q6_
    have q218 : a1 < (l0.length : Int) := of_decide_eq_true q6_
    obtain ⟨ad218, e218, hx218_0, hx218_1, hx218_2, hx218_3, hx218_4⟩ := at_T43 HR0.out a1 p218 q218
    cases e218
    replace p218 := eq_true p218
    replace q218 := eq_true q218
    go_enter Tryd.func28, Tryd.ntmps28
    go_wp2
    go_ret
    exact ⟨q3_, q30_⟩
  ·rw [if_neg c8] at H
   exact absurd H q28_
 ·rw [if_neg c7] at H
  have c7b0 : decide (a1 < (l0.length : Int)) = false := decide_eq_false c7
  clear c7
  obtain rfl := Option.some.inj H
  go_enter Tryd.func28, Tryd.ntmps28
  go_wp2
  go_ret
  exact ⟨q3_, q30_⟩
def rosterref02_Bool.f (a0 : ByteArray) : Option (Bool × Int) := if (a0.size : Int) = 1 then (if 0 < (a0.size : Int) then (some (((bt a0 0) != 0), 0)) else (none)) else (some (false, 29))
set_option maxHeartbeats 8000000 in
set_option maxRecDepth 100000 in
theorem rosterref02_Bool.calls (a0 : ByteArray) (r1 : Bool) (r2 : Int) (w : World) (h : rosterref02_Bool.f a0 = some (r1, r2)) :
  Calls Tryd.prog 29 #[.string a0] w fun e w' => e = .returned (.tuple #[.bool r1, .int .i64 r2]) ∧ Drawn0 w w' := by
 have H : (if (a0.size : Int) = 1 then (if 0 < (a0.size : Int) then (some (((bt a0 0) != 0), 0)) else (none)) else (some (false, 29))) = some (r1, r2) := h
 clear h
 by_cases c2 : (a0.size : Int) = 1
 ·rw [if_pos c2] at H
  have c2b0 : ((a0.size : Int) == 1) = true := beq_iff_eq.mpr c2
  have c2b1 : ((a0.size : Int) != 1) = false := bne_eq_false_iff_eq.mpr c2
  clear c2
  by_cases c3 : 0 < (a0.size : Int)
  ·rw [if_pos c3] at H
   have c3b0 : decide (0 < (a0.size : Int)) = true := decide_eq_true c3
   have c3b1 : decide (0 < a0.size) = true := decide_eq_true q2_
   have c3b2 : 0 < a0.size := by omega
   clear c3
   simp only [Option.some.injEq, Prod.mk.injEq] at H
   obtain ⟨rfl, rfl⟩ := H
   have p4 : 0 ≤ (0 : Int) := q2_
   have q4 : 0 < a0.size := q103_
   have hx4 : ∀ h : 0 < a0.size, ((a0[0]'h).toNat : Int) = bt a0 0 := bt_at a0 0
   clear p4
   have qi4 : (0 < (a0.size : Int)) = True := eq_true (of_decide_eq_true q6_)
   replace q4 := eq_true q4
   go_enter Tryd.func29, Tryd.ntmps29
   go_wp2
   go_ret2
   exact ⟨q3_, q30_⟩
  ·rw [if_neg c3] at H
   exact absurd H q28_
 ·rw [if_neg c2] at H
  have c2b0 : ((a0.size : Int) == 1) = false := beq_eq_false_iff_ne.mpr c2
  have c2b1 : ((a0.size : Int) != 1) = true := bne_iff_ne.mpr c2
  simp only [Option.some.injEq, Prod.mk.injEq] at H
  obtain ⟨rfl, rfl⟩ := H
  go_enter Tryd.func29, Tryd.ntmps29
  go_wp2
  go_ret2
  exact ⟨q3_, q30_⟩
end Go.Proofs.YtogjljpncdmlkaaDoor.GV
end
section
namespace Go.Proofs.YtogjljpncdmlkaaDoor.W
open Go.RowKit Go.Proofs.YtogjljpncdmlkaaDoorW.PrintWords Go.Proofs.YtogjljpncdmlkaaDoorW.PrintLast
set_option linter.unusedVariables false
set_option linter.unusedSimpArgs false
def nxB (n : NodeT) (d cls : Int) (made : Bool) (tag : Int) : Bool := n.1 == d && (n.2.1 == cls && (n.2.2.1 == made && n.2.2.2.1 == tag))
def nx (d cls : Int) (made : Bool) (tag : Int) : List NodeT → Option (ByteArray × List NodeT)
  | n :: r => if nxB n d cls made tag = true then some (n.2.2.2.2, r) else none
  | [] => none
def RdV (w0 w : World) (g : Nat) (xs : List NodeT) (bad : Bool) : Prop :=
  ∃ A c, At w g 61 #[.slice A xs.length c, .bool bad] ∧ xs.length ≤ c ∧ Kd.C kNode w0 A xs.length xs ∧ Below w0.heap.size w0 w ∧ w0.heap.size ≤ g
theorem infoNodeV : ∃ i : TypeInfo, Tryd.prog.info? 43 = some i ∧ i.size = 5 := by
  obtain ⟨i, h, _, h2, _⟩ := info_parts infoNode
  exact ⟨i, h, h2⟩
theorem slice_tail {W : World} (A : Option Addr) (n c : Nat) (h1 : 1 ≤ n) (hc : n ≤ c) :
    (Instr.slice 45 (.slice A n c) (some (.int .i64 1)) none none).run Tryd.prog W = .ok (.slice (if c = 1 then A else A.map (·.add (1 * 5))) (n - 1) (c - 1)) W := by
  obtain ⟨i, hi, hz⟩ := infoNodeV
  have hel : Tryd.prog.elem 45 = 43 := by simp [Program.elem, Tryd.underlying45]
  have hu : Tryd.prog.underlying 45 = some (.slice (Tryd.prog.elem 45)) := by rw [hel]; exact Tryd.underlying45
  rw [run_slice_l W 45 A n c hu .i64 1 q2_ q2_, hel]
  simp [sizeOf, typeInfo, hi, hz, sliced, Result.andThen]
def NextHit (w0 w : World) (g : Nat) (b : ByteArray) (r : List NodeT) (bad : Bool) (en : Ending) (w' : World) : Prop :=
  en = .returned (.tuple #[.string b, .bool true]) ∧ RdV w0 w' g r bad ∧ w.grownBy w' (some g)
def NextMiss (w0 w : World) (g : Nat) (xs : List NodeT) (bad : Bool) (en : Ending) (w' : World) : Prop :=
  en = .returned (.tuple #[.string ⟨#[]⟩, .bool false]) ∧ RdV w0 w' g xs bad ∧ w.grownBy w' (some g)
def mustS (d cls : Int) (made : Bool) (tag : Int) (xs : List NodeT) (bad : Bool) : ByteArray × List NodeT × Bool :=
  match nx d cls made tag xs with
  | some (b, r) => (b, r, bad)
  | none => (⟨#[]⟩, xs, true)
set_option maxRecDepth 100000 in
set_option maxHeartbeats 4000000 in
theorem next_hit {w0 w : World} {g : Nat} {xs : List NodeT} {bad : Bool} (h : RdV w0 w g xs bad) (d cls : Int) (made : Bool) (tag : Int) {b : ByteArray} {r : List NodeT} (hx : nx d cls made tag xs = some (b, r)) :
    Calls Tryd.prog 47 #[.pointer (some ⟨g, 0, none⟩), .int .i64 d, .int .i64 cls, .bool made, .int .i64 tag] w (NextHit w0 w g b r bad) := by
  obtain ⟨A, c, m, hc, hC, hB, hg⟩ := h
  cases xs with
  | nil => cases hx
  | cons n rest =>
    simp only [nx] at hx
    by_cases hb : nxB n d cls made tag = true
    · rw [if_pos hb] at hx
      obtain ⟨rfl, rfl⟩ := Prod.mk.inj (Option.some.inj hx)
      simp only [nxB, Bool.and_eq_true, beq_iff_eq] at hb
      obtain ⟨rfl, rfl, rfl, rfl⟩ := hb
      have hC' := Kd.C_below hC hB
      obtain ⟨ad, rfl, m0, m1, m2, m3, m4⟩ := node_at hC' 0 q28_
      have hd := Kd.C_drop (m := 1) hC q28_ hc
      simp only [nd, List.getD_cons_zero] at m0 m1 m2 m3 m4
      have x0 : w.cell? ⟨g, 0, none⟩ = some (.slice (some ad) (n :: rest).length c) := (m.cell 0).trans rfl
      have x1 := (m.cell 1).trans rfl
      have y0 := m.free 0
      have lg := m.lt
      obtain ⟨L, hL⟩ : ∃ L, L = (n :: rest).length := ⟨_, rfl⟩
      have hL1 : L - 1 = rest.length := by rw [hL]; rfl
      rw [← hL] at x0 hc hC hC' m
      have p0 : (0 : Int) < (L : Int) := by rw [hL, List.length_cons]; omega
      have p1 : (1 : Int) ≤ (L : Int) := by omega
      have p2 : 1 ≤ L := by omega
      have hz : ((L : Int) == 0) = false := by rw [beq_eq_false_iff_ne]; omega
      have hs := slice_tail (W := (w.alloc (.cells #[.int .i64 n.1, .int .i64 n.2.1, .bool n.2.2.1, .int .i64 n.2.2.2.1, .string n.2.2.2.2] 43))) (some ad) L c p2 hc
      clear hx
      have HD := Lib.hid hd
      have HL := Lib.hid hL
      have HB := Lib.hid hB
      have HL1 := Lib.hid hL1
      clear hd hL hL1 hB hC hC'
      rw [Nat.zero_mul] at m0 m1 m2 m3 m4
      obtain ⟨ab, ao, asp⟩ := ad
      have hsp : asp = none := spot_none m0
      subst hsp
      replace m0 : w.cell? ⟨ab, ao, none⟩ = some (.int .i64 n.1) := m0
      replace m1 : w.cell? ⟨ab, ao + 1, none⟩ = some (.int .i64 n.2.1) := m1
      replace m2 : w.cell? ⟨ab, ao + 2, none⟩ = some (.bool n.2.2.1) := m2
      replace m3 : w.cell? ⟨ab, ao + 3, none⟩ = some (.int .i64 n.2.2.2.1) := m3
      replace m4 : w.cell? ⟨ab, ao + 4, none⟩ = some (.string n.2.2.2.2) := m4
      go_enter Tryd.func47, Tryd.ntmps47
      go_wp2_with fail
      all_goals go_ret2
      all_goals
        have hD := HD.out
        have hB1 := HB.out.size
        refine ⟨rfl, ⟨_, _, by rw [← HL1.out]; exact (m.set 0 _).alloc _, by rw [← HL1.out]; omega, ?_, (HB.out.setCell hg _).alloc q39_ _, hg⟩, Lib.grownBy_allocR (Lib.grownBy_setCell _ _ _ _) _⟩
        first
          | (rw [if_pos q7_] at hD; exact hD)
          | (rw [if_neg q7_] at hD; exact hD)
    · rw [if_neg hb] at hx
      cases hx
set_option maxHeartbeats 4000000 in
theorem next_miss {w0 w : World} {g : Nat} {xs : List NodeT} {bad : Bool} (h : RdV w0 w g xs bad) (d cls : Int) (made : Bool) (tag : Int) (hx : nx d cls made tag xs = none) :
    Calls Tryd.prog 47 #[.pointer (some ⟨g, 0, none⟩), .int .i64 d, .int .i64 cls, .bool made, .int .i64 tag] w (NextMiss w0 w g xs bad) := by
  obtain ⟨A, c, m, hc, hC, hB, hg⟩ := h
  have x0 := (m.cell 0).trans rfl
  have x1 := (m.cell 1).trans rfl
  cases xs with
  | nil =>
    clear hx
    have x0 : w.cell? ⟨g, 0, none⟩ = some (.slice A 0 c) := x0
    have m : At w g 61 #[.slice A 0 c, .bool bad] := m
    have HB := Lib.hid hB
    have HC := Lib.hid hC
    clear hB hC
    go_enter Tryd.func47, Tryd.ntmps47
    go_wp2_with fail
    go_ret2
    exact ⟨rfl, ⟨A, c, m, Nat.zero_le _, HC.out, HB.out, hg⟩, World.grownBy.refl _ _⟩
  | cons n rest =>
    have hb : nxB n d cls made tag = false := by
      simp only [nx] at hx
      by_cases hb : nxB n d cls made tag = true
      · rw [if_pos hb] at hx; cases hx
      · exact Bool.eq_false_iff.2 hb
    have hC' := Kd.C_below hC hB
    obtain ⟨ad, rfl, m0, m1, m2, m3, m4⟩ := node_at hC' 0 q28_
    simp only [nd, List.getD_cons_zero] at m0 m1 m2 m3 m4
    obtain ⟨L, hL⟩ : ∃ L, L = (n :: rest).length := ⟨_, rfl⟩
    have x0 : w.cell? ⟨g, 0, none⟩ = some (.slice (some ad) (n :: rest).length c) := x0
    rw [← hL] at x0 hc m
    have p0 : (0 : Int) < (L : Int) := by rw [hL, List.length_cons]; omega
    have hz : ((L : Int) == 0) = false := by rw [beq_eq_false_iff_ne]; omega
    have HL := Lib.hid hL
    have HB := Lib.hid hB
    have HC := Lib.hid hC
    have HN := Lib.hid hb
    rw [Nat.zero_mul] at m0 m1 m2 m3 m4
    obtain ⟨ab, ao, asp⟩ := ad
    have hsp : asp = none := spot_none m0
    subst hsp
    replace m0 : w.cell? ⟨ab, ao, none⟩ = some (.int .i64 n.1) := m0
    replace m1 : w.cell? ⟨ab, ao + 1, none⟩ = some (.int .i64 n.2.1) := m1
    replace m2 : w.cell? ⟨ab, ao + 2, none⟩ = some (.bool n.2.2.1) := m2
    replace m3 : w.cell? ⟨ab, ao + 3, none⟩ = some (.int .i64 n.2.2.2.1) := m3
    replace m4 : w.cell? ⟨ab, ao + 4, none⟩ = some (.string n.2.2.2.2) := m4
    obtain ⟨n0, n1, n2, n3, n4⟩ := n
    simp only at m0 m1 m2 m3 m4
    have lg := m.lt
    have hm : n0 ≠ d ∨ (n0 = d ∧ n1 ≠ cls) ∨ (n0 = d ∧ n1 = cls ∧ n2 ≠ made) ∨ (n0 = d ∧ n1 = cls ∧ n2 = made ∧ n3 ≠ tag) := by
      simp only [nxB, Bool.and_eq_false_iff, beq_eq_false_iff_ne] at hb
      by_cases a0 : n0 = d
      · by_cases a1 : n1 = cls
        · by_cases a2 : n2 = made
          · rcases hb with h | h | h | h
            · exact absurd a0 h
            · exact absurd a1 h
            · exact absurd a2 h
            · exact .inr (.inr (.inr ⟨a0, a1, a2, h⟩))
          · exact .inr (.inr (.inl ⟨a0, a1, a2⟩))
        · exact .inr (.inl ⟨a0, a1⟩)
      · exact .inl a0
    clear hL hB hC hC' hb hx HN
    have fin : ∀ W, W = w.alloc (.cells #[.int .i64 n0, .int .i64 n1, .bool n2, .int .i64 n3, .string n4] 43) → RdV w0 W g ((n0, n1, n2, n3, n4) :: rest) bad ∧ w.grownBy W (some g) := by
      rintro W rfl
      have hB1 := HB.out.size
      exact ⟨⟨some ⟨ab, ao, none⟩, c, by rw [← HL.out]; exact m.alloc _, by rw [← HL.out]; exact hc, HC.out, HB.out.alloc q2_ _, hg⟩, World.grownBy_alloc _ _ _⟩
    have FIN := Lib.hid fin
    clear fin HC HB
    rcases hm with h | ⟨rfl, h⟩ | ⟨rfl, rfl, h⟩ | ⟨rfl, rfl, rfl, h⟩
    · have e : (n0 != d) = true := bne_iff_ne.2 h
      go_enter Tryd.func47, Tryd.ntmps47
      go_wp2_with fail
      go_ret2
      exact ⟨rfl, FIN.out _ rfl⟩
    · have e : (n1 != cls) = true := bne_iff_ne.2 h
      go_enter Tryd.func47, Tryd.ntmps47
      go_wp2_with fail
      go_ret2
      exact ⟨rfl, FIN.out _ rfl⟩
    · have e : (n2 != made) = true := bne_iff_ne.2 h
      go_enter Tryd.func47, Tryd.ntmps47
      go_wp2_with fail
      go_ret2
      exact ⟨rfl, FIN.out _ rfl⟩
    · have e : (n3 != tag) = true := bne_iff_ne.2 h
      go_enter Tryd.func47, Tryd.ntmps47
      go_wp2_with fail
      go_ret2
      exact ⟨rfl, FIN.out _ rfl⟩
theorem RdV.put {w0 w : World} {g : Nat} {xs : List NodeT} {bad : Bool} (h : RdV w0 w g xs bad) (b : Bool) : RdV w0 (w.setCell ⟨g, 1, none⟩ (.bool b)) g xs b := by
  obtain ⟨A, c, m, hc, hC, hB, hg⟩ := h
  exact ⟨A, c, m.set 1 _, hc, hC, hB.setCell hg _, hg⟩
set_option maxHeartbeats 4000000 in
theorem must_any {w0 w : World} {g : Nat} {xs : List NodeT} {bad : Bool} (h : RdV w0 w g xs bad) (d cls : Int) (made : Bool) (tag : Int) :
    Calls Tryd.prog 36 #[.pointer (some ⟨g, 0, none⟩), .int .i64 d, .int .i64 cls, .bool made, .int .i64 tag] w
      fun en w' => en = .returned (.string (mustS d cls made tag xs bad).1) ∧ RdV w0 w' g (mustS d cls made tag xs bad).2.1 (mustS d cls made tag xs bad).2.2 ∧ w.grownBy w' (some g) := by
  cases hn : nx d cls made tag xs with
  | some p =>
    obtain ⟨b, r⟩ := p
    have e : mustS d cls made tag xs bad = (b, r, bad) := by unfold mustS; rw [hn]
    rw [e]
    have H := Lib.hid (next_hit h d cls made tag hn)
    clear e hn h
    go_enter Tryd.func36, Tryd.ntmps36
    go_wp2_with fail
    refine H.out.mono ?_
    rintro en w1 ⟨rfl, hr, hgr⟩
    have HR := Lib.hid hr
    obtain ⟨A, c, m, hc, hC, hB, hg⟩ := hr
    have x1 := (m.cell 1).trans rfl
    have y1 := m.free 1
    have G := Lib.hid hgr
    clear hC hB hgr m hc hg
    cases bad
    all_goals
      go_wp2_with fail
      go_ret
      exact ⟨rfl, HR.out.put _, Lib.grownBy_trans G.out (Lib.grownBy_setCell _ _ _ _)⟩
  | none =>
    have e : mustS d cls made tag xs bad = (⟨#[]⟩, xs, true) := by unfold mustS; rw [hn]
    rw [e]
    have H := Lib.hid (next_miss h d cls made tag hn)
    clear e hn h
    go_enter Tryd.func36, Tryd.ntmps36
    go_wp2_with fail
    refine H.out.mono ?_
    rintro en w1 ⟨rfl, hr, hgr⟩
    have HR := Lib.hid hr
    obtain ⟨A, c, m, hc, hC, hB, hg⟩ := hr
    have x1 := (m.cell 1).trans rfl
    have y1 := m.free 1
    have G := Lib.hid hgr
    clear hC hB hgr m hc hg
    cases bad
    all_goals
      go_wp2_with fail
      go_ret
      exact ⟨rfl, HR.out.put _, Lib.grownBy_trans G.out (Lib.grownBy_setCell _ _ _ _)⟩
end Go.Proofs.YtogjljpncdmlkaaDoor.W
end
