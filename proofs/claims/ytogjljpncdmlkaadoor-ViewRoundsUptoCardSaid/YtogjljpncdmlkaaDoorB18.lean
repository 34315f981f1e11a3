/- Texts of this claim in one: PureViewRounds -/
import Derived.Test.YtogjljpncdmlkaaDoorB3
import Derived.Test.YtogjljpncdmlkaaDoorB17
import Derived.Test.YtogjljpncdmlkaaDoorB5
import Derived.Test.YtogjljpncdmlkaaDoorRows
section
namespace Go.Proofs.YtogjljpncdmlkaaDoor.Pure
open Go.ChangeShapes Go.WideShapes Go.ChangeAt Go.RowKit Go.Proofs.YtogjljpncdmlkaaDoorW.PrintWords Go.Proofs.YtogjljpncdmlkaaDoorW.PrintLast Go.Proofs.YtogjljpncdmlkaaDoor.GO Go.Proofs.YtogjljpncdmlkaaDoor.Po Go.Proofs.YtogjljpncdmlkaaDoor.W
set_option linter.unusedVariables false
set_option linter.unusedSimpArgs false
theorem same_l (l : List K) (hl : l.length ≤ 4194304) : ∀ (j i k : Nat), i + j = l.length → rosterlaw22_sameKeys.l0 (k + j + 1) l l (i : Int) = some true := by
  intro j
  induction j with
  | zero => intro i k hi; rw [rosterlaw22_sameKeys.l0, if_neg q2_]
  | succ j ih =>
    intro i k hi
    rw [show k + (j + 1) + 1 = (k + j + 1) + 1 by omega, rosterlaw22_sameKeys.l0, if_pos q2_, if_pos q2_, if_pos q2_, if_neg q21_, Po.wr i q2_]
    exact ih (i + 1) k q2_
theorem same_f (l : List K) (hl : l.length ≤ 4194304) (k : Nat) (hk : l.length + 1 ≤ k) : rosterlaw22_sameKeys.f k l l = some true := by
  obtain ⟨q, rfl⟩ : ∃ q, k = q + l.length + 1 := ⟨k - (l.length + 1), q2_⟩
  unfold rosterlaw22_sameKeys.f
  rw [if_pos rfl]
  exact same_l l hl l.length 0 q q2_
def sh (s : ByteArray) : ByteArray := if 65536 < s.size then s.extract 0 65536 else s
theorem sh_f (s : ByteArray) : rosterlaw22_short.f s = some (sh s) := by
  unfold rosterlaw22_short.f sh
  by_cases h : 65536 < s.size
  · rw [if_pos q2_, if_pos q14_, if_pos q2_, if_pos h]
  · rw [if_neg q2_, if_neg h]
theorem sh_size (s : ByteArray) : (sh s).size ≤ s.size := by
  unfold sh
  split
  · rw [ByteArray.size_extract]; omega
  · exact Nat.le_refl _
def cutK (x : K) : K := ⟨sh x.f0, sh x.f1, x.f2⟩
theorem bsA {β : Type} (b : ByteArray) (f : ByteArray → Option β) : (some b).bind f = f b := rfl
theorem loop0 (l : List K) (n : Int) (c : ByteArray) (m : Int) (M : Nat) (hM : M = min l.length 1000) : ∀ (j i q : Nat) (acc : List K), i + j = M → acc.length = i →
    rosterlaw22_ViewRounds.l0 (q + 2 * j + 2) l n c m acc (i : Int) = rosterlaw22_ViewRounds.l1 q n (sh c) m (acc ++ ((l.take M).drop i).map cutK) true 0 := by
  intro j
  induction j with
  | zero =>
    intro i q acc hi ha
    have hd : (l.take M).drop i = [] := List.drop_of_length_le (by rw [List.length_take]; omega)
    rw [hd, List.map_nil, List.append_nil, rosterlaw22_ViewRounds.l0]
    by_cases h : i < l.length
    · rw [if_pos q2_, decide_eq_false q2_, rosterlaw22_ViewRounds.j1, if_neg q14_, sh_f, bsA]
    · rw [if_neg q2_, rosterlaw22_ViewRounds.j1, if_neg q14_, sh_f, bsA]
  | succ j ih =>
    intro i q acc hi ha
    have hil : i < l.length := by omega
    have hi2 : i < (l.take M).length := by rw [List.length_take]; omega
    rw [show q + 2 * (j + 1) + 2 = (q + 2 * j + 2) + 1 + 1 by omega, rosterlaw22_ViewRounds.l0, if_pos q2_, decide_eq_true q2_, rosterlaw22_ViewRounds.j1, if_pos rfl, if_pos q2_, if_pos q2_, sh_f, bsA, sh_f, bsA, if_pos q2_, Po.wr i q2_, ih (i + 1) q _ q2_ (by rw [List.length_append, ha]; rfl)]
    rw [List.drop_eq_getElem_cons hi2, List.map_cons, List.append_assoc, rdK l i hil, List.getElem_take]
    rfl
theorem okU_cons (x : K) (l : List K) : okU (x :: l) = (Tx.U x.f0 && Tx.U x.f1 && okU l) := by unfold okU; rw [List.all_cons]
theorem loop1 (n : Int) (c : ByteArray) (m : Int) (l : List K) (ho : okK l) (hl : l.length ≤ 1000) : ∀ (j i q : Nat) (b : Bool), i + j = l.length →
    rosterlaw22_ViewRounds.l1 (q + j + 1) n c m l b (i : Int) = rosterlaw22_ViewRounds.l1 (q + 1) n c m l (b && okU (l.drop i)) (l.length : Int) := by
  intro j
  induction j with
  | zero =>
    intro i q b hi
    have : i = l.length := by omega
    subst this
    rw [List.drop_of_length_le (Nat.le_refl _), show okU ([] : List K) = true from rfl, Bool.and_true]
  | succ j ih =>
    intro i q b hi
    have hil : i < l.length := by omega
    have hx := ho l[i] (List.getElem_mem hil)
    rw [show q + (j + 1) + 1 = (q + j + 1) + 1 by omega, rosterlaw22_ViewRounds.l1, if_pos q2_, if_pos q2_, rdK l i hil, List.drop_eq_getElem_cons hil, okU_cons]
    generalize l[i] = x at hx ⊢
    unfold rosterref01_Check.f
    rw [if_pos q2_, if_pos q2_, Option.bind_some, Option.bind_some, Po.wr i q2_]
    have e0 : Tx.U x.f0 = ((W.chkB x.f0).1 == 0) := rfl
    have e1 : Tx.U x.f1 = ((W.chkB x.f1).1 == 0) := rfl
    cases b with
    | false => rw [if_neg q14_, ih (i + 1) q false q2_, Bool.false_and, Bool.false_and]
    | true =>
      rw [if_pos rfl, Bool.true_and]
      by_cases h0 : (W.chkB x.f0).1 = 0
      · rw [if_pos h0, ih (i + 1) q _ q2_, e0, e1, beq_iff_eq.2 h0, Bool.true_and]
      · rw [if_neg h0, ih (i + 1) q _ q2_, e0, beq_eq_false_iff_ne.2 h0, Bool.false_and, Bool.false_and, Bool.false_and]
theorem nonempty_list {s : ByteArray} (h : 0 < s.size) : s.toList ≠ ([] : List UInt8) := fun e => by
  have := (toList_emp s).2.1 e
  omega
theorem nums_one (x : Int) : (strOfNums [x % 256]).size = 1 := by rw [W.str_size]; rfl
theorem tail4 (n : Int) (c : ByteArray) (hc : c.size ≤ 1048576) (m : Int) (l : List K) (ho : okK l) (hl : l.length ≤ 1000) (hk : kw l ≤ 1400000) (hu : okU l = true) (b : ByteArray)
    (q : Nat) (hq : 10000 ≤ q) (h1 : 0 < b.size) (h2 : b.size ≤ 1500000) (h3 : view_DecodeKeys.f b = some (l, 0)) (h4 : ∀ x : ByteArray, 0 < x.size → x.size ≤ 10 → view_DecodeKeys.f (b ++ x) = some ([], 224)) (h5 : view_DecodeKeys.f (b.extract 0 (b.size - 1)) = some ([], 224)) :
    rosterlaw22_ViewRounds.j4 q n c m l b 0 = some true := by
  obtain ⟨q, rfl⟩ : ∃ p, q = p + 1 + 1 + 1 + 1 + 1 + 1 := ⟨q - 6, q2_⟩
  have hw : wrap64 ((b.size : Int) - 1) = ((b.size - 1 : Nat) : Int) := by unfold wrap64; omega
  have hn := nums_one m
  rw [rosterlaw22_ViewRounds.j4, h3, Option.bind_some, if_pos rfl, if_pos rfl, if_neg (nonempty_list h1), same_f l q2_ _ q2_, bsB, rosterlaw22_ViewRounds.j5, if_neg q14_, Option.bind_some, if_pos q2_, h4 _ q2_ q2_, Option.bind_some, hw, if_pos q2_, if_pos q2_, Int.toNat_natCast, h5, Option.bind_some, if_pos rfl,
    show (((([] : List K), (224 : Int)).2) != 224) = false by decide, rosterlaw22_ViewRounds.j6, if_neg q14_]
  have fin : ∀ (n' : Int), 0 ≤ n' → n' ≤ 2147483647 → ∀ p : ByteArray, view_EncodePage.f (q + 1 + 1) n' c = some (p, 0) ∨ True → ∀ (e : Int) (pp : ByteArray), (∃ b', pp = b' ∧ e = 0 ∧ 0 < b'.size ∧ b'.size ≤ 1500000 ∧ view_DecodePage.f b' = some (n', c, 0) ∧ (∀ x : ByteArray, 0 < x.size → x.size ≤ 10 → view_DecodePage.f (b' ++ x) = some (0, ⟨#[]⟩, 224)) ∧ view_DecodePage.f (b'.extract 0 (b'.size - 1)) = some (0, ⟨#[]⟩, 224)) →
      rosterlaw22_ViewRounds.j8 (q + 1 + 1) n' c m e pp = some true := by
    rintro n' _ _ _ _ e pp ⟨b', rfl, rfl, g1, g2, g3, g4, g5⟩
    have hw' : wrap64 ((pp.size : Int) - 1) = ((pp.size - 1 : Nat) : Int) := by unfold wrap64; omega
    rw [rosterlaw22_ViewRounds.j8, g3, Option.bind_some, if_pos rfl, if_pos rfl, if_pos rfl, show (c.toList != c.toList) = false by simp, rosterlaw22_ViewRounds.j9, if_neg q14_, Option.bind_some, if_pos q2_, g4 _ q2_ q2_, Option.bind_some, hw', if_pos q2_, if_pos q2_, Int.toNat_natCast, g5, Option.bind_some, if_pos rfl]
    rfl
  by_cases r : n < 0 ∨ 2147483647 < n
  · have hb := page_bad n r c (q + 1 + 1 + 1) q2_
    obtain ⟨p, p1, p2, p3, p4, p5, p6⟩ := page_law 7 q2_ q2_ c hc (q + 1 + 1) q2_
    have hj7 : rosterlaw22_ViewRounds.j7 (q + 1 + 1 + 1) n c m 224 ⟨#[]⟩ true = some true := by
      rw [rosterlaw22_ViewRounds.j7, if_pos rfl, if_pos rfl, if_pos (by rw [ByteArray.toList_eq]), p1, Option.bind_some]
      exact fin 7 q2_ q2_ p (.inr trivial) 0 p ⟨p, rfl, rfl, p2, p3, p4, p5, p6⟩
    rw [hb, Option.bind_some]
    by_cases r0 : n < 0
    · rw [if_pos r0]; exact hj7
    · rw [if_neg r0, decide_eq_true q2_]; exact hj7
  · obtain ⟨p, p1, p2, p3, p4, p5, p6⟩ := page_law n q2_ q2_ c hc (q + 1 + 1 + 1) q2_
    rw [p1, Option.bind_some, if_neg q2_, decide_eq_false q2_, rosterlaw22_ViewRounds.j7, if_neg q14_]
    exact fin n q2_ q2_ p (.inr trivial) 0 p ⟨p, rfl, rfl, p2, p3, p4, p5, p6⟩
theorem law (l : List K) (hs : ∀ x ∈ l, x.f0.size ≤ 1048576 ∧ x.f1.size ≤ 1048576) (hk : kw ((l.take 1000).map cutK) ≤ 1400000) (n : Int) (c : ByteArray) (m : Int) (hc : c.size ≤ 1048576) : ∃ k, rosterlaw22_ViewRounds.f k l n c m = some true := by
  obtain ⟨M, hM⟩ : ∃ M, M = min l.length 1000 := ⟨_, rfl⟩
  obtain ⟨ks, hks⟩ : ∃ ks, ks = (l.take M).map cutK := ⟨_, rfl⟩
  have hlen : ks.length = M := by rw [hks, List.length_map, List.length_take]; omega
  have hk2 : kw ks ≤ 1400000 := by
    rw [hks]
    have : l.take M = l.take 1000 := by rw [hM]; by_cases h : l.length ≤ 1000 <;> simp [List.take_of_length_le, *] <;> omega
    rw [this]; exact hk
  have ho : okK ks := by
    intro x hx
    rw [hks] at hx
    obtain ⟨y, hy, rfl⟩ := List.mem_map.1 hx
    have := hs y (List.mem_of_mem_take hy)
    have a1 := sh_size y.f0
    have a2 := sh_size y.f1
    show (sh y.f0).size ≤ 2097152 ∧ (sh y.f1).size ≤ 2097152
    omega
  have hcs := sh_size c
  refine ⟨(20000 + M + 1) + 2 * M + 2, ?_⟩
  unfold rosterlaw22_ViewRounds.f
  have h0 := loop0 l n c m M hM M 0 (20000 + M + 1) [] q2_ rfl
  rw [show ((0 : Nat) : Int) = 0 from rfl, List.drop_zero, List.nil_append, ← hks] at h0
  rw [h0]
  have h1 := loop1 n (sh c) m ks ho q2_ M 0 20000 true q2_
  rw [show ((0 : Nat) : Int) = 0 from rfl, List.drop_zero, Bool.true_and] at h1
  rw [h1, rosterlaw22_ViewRounds.l1, if_neg q2_]
  by_cases hu : okU ks = true
  · obtain ⟨b, b1, b2, b3, b4, b5, b6⟩ := keys_law ks ho q2_ hk2 hu 20000 q2_
    rw [b1, Option.bind_some, if_pos hu, hu, rosterlaw22_ViewRounds.j3, if_neg q14_, if_pos rfl]
    exact tail4 n (sh c) q2_ m ks ho q2_ hk2 hu b 19999 q2_ b2 b3 b4 b5 b6
  · have hu' : okU ks = false := Bool.eq_false_iff.2 hu
    rw [vEnc_f ks ho q2_ 20000 q2_, encR_bad ks _ hu', Option.bind_some, if_neg hu, if_pos rfl, hu', show (((⟨#[]⟩ : ByteArray), (224 : Int)).1.toList != ([] : List UInt8)) = false by rw [show (((⟨#[]⟩ : ByteArray), (224 : Int)).1).toList = ([] : List UInt8) by rw [ByteArray.toList_eq]]; rfl, rosterlaw22_ViewRounds.j3, if_neg q14_, if_neg q14_]
    obtain ⟨b, b1, b2, b3, b4, b5, b6⟩ := keys_law [] (fun x hx => by cases hx) q14_ q14_ rfl 19999 q14_
    rw [b1, Option.bind_some]
    exact tail4 n (sh c) q2_ m [] (fun x hx => by cases hx) q14_ q14_ rfl b 19999 q2_ b2 b3 b4 b5 b6
abbrev TK := TyViewRounds.T25
def upT (x : TK) : K := ⟨x.1, x.2.1, x.2.2⟩
theorem up_C {w : World} {A : Option Addr} {n : Nat} {xs : List TK} (h : Kd.C TyViewRounds.k25 w A n xs) : Kd.C k25 w A n (xs.map upT) := by
  obtain ⟨h1, h2, h3⟩ := h
  refine ⟨by rw [List.length_map]; exact h1, h2, fun hn => ?_⟩
  obtain ⟨ad, e, hc⟩ := h3 hn
  refine ⟨ad, e, fun j p hj => ?_⟩
  rw [List.getElem?_map] at hj
  obtain ⟨q, hq, rfl⟩ := Option.map_eq_some_iff.1 hj
  obtain ⟨c, g1, g2, g3⟩ := hc j q hq
  exact ⟨c, g1, g2, g3⟩
theorem bulk_eq (x : TK) : TyViewRounds.bulk25 x = 1 + (x.1.size + 1) + (x.2.1.size + 1) + 1 := rfl
theorem kw_cut (l : List TK) : ∀ m, kw (((l.map upT).take m).map cutK) ≤ (l.map TyViewRounds.bulk25).sum + 21 * m := by
  induction l with
  | nil => intro m; simp [kw]
  | cons x l ih =>
    intro m
    cases m with
    | zero => simp [kw]
    | succ m =>
      rw [List.map_cons, List.take_succ_cons, List.map_cons]
      have hk : kw (cutK (upT x) :: ((l.map upT).take m).map cutK) = (sh x.1).size + (sh x.2.1).size + 25 + kw (((l.map upT).take m).map cutK) := rfl
      have hb := bulk_eq x
      have := ih m
      have a1 := sh_size x.1
      have a2 := sh_size x.2.1
      rw [hk, List.map_cons, List.sum_cons]
      omega
theorem sum_mem (l : List TK) (x : TK) (h : x ∈ l) : TyViewRounds.bulk25 x ≤ (l.map TyViewRounds.bulk25).sum := by
  induction l with
  | nil => cases h
  | cons y r ih =>
    simp only [List.map_cons, List.sum_cons]
    rcases List.mem_cons.1 h with rfl | h
    · omega
    · have := ih h; omega
theorem ViewRounds (w : World) (hL : laidMetH Tryd.prog Rows.viewRoundsUptoRow.laid w) (A0 : Option Addr) (c0 : Nat) (l0 : List TK) (hc0 : l0.length ≤ c0) (hr0 : Kd.C TyViewRounds.k25 w A0 l0.length l0) (hw0 : TyViewRounds.wf22 l0) (hb0 : TyViewRounds.bulk22 l0 ≤ 1048576)
    (a1 : Int) (w1 : (Lit.int .i64 a1).wf = true) (a2 : ByteArray) (w2 : a2.size ≤ 1048576) (a3 : Int) (w3 : (Lit.int .i64 a3).wf = true) :
    Calls Tryd.prog 4 #[.slice A0 l0.length c0, .int .i64 a1, .string a2, .int .i64 a3] w fun en w' => en = .returned (.bool true) ∧ Below w.heap.size w w' := by
  have hb : (l0.map TyViewRounds.bulk25).sum + 1 ≤ 1048576 := hb0
  have hk := kw_cut l0 1000
  have e0 : (l0.map upT).length = l0.length := List.length_map _
  have hs : ∀ x ∈ l0.map upT, x.f0.size ≤ 1048576 ∧ x.f1.size ≤ 1048576 := by
    intro x hx
    obtain ⟨y, hy, rfl⟩ := List.mem_map.1 hx
    have h1 := sum_mem l0 y hy
    have h2 := bulk_eq y
    show y.1.size ≤ 1048576 ∧ y.2.1.size ≤ 1048576
    omega
  obtain ⟨k, h⟩ := law (l0.map upT) hs q2_ a1 a2 a3 w2
  have hq := rosterlaw22_ViewRounds.calls k A0 c0 (l0.map upT) a1 a2 a3 true w (by rw [e0]; exact up_C hr0) (by rw [e0]; exact hc0) h (W.TabW.of hL) rfl
  rw [e0] at hq
  exact hq
end Go.Proofs.YtogjljpncdmlkaaDoor.Pure
end
