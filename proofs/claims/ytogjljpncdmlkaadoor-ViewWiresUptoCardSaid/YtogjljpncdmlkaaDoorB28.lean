/- Texts of this claim in one: PureViewWires -/
import Derived.Test.YtogjljpncdmlkaaDoorB3
import Derived.Test.YtogjljpncdmlkaaDoorB27
import Derived.Test.YtogjljpncdmlkaaDoorB12
import Derived.Test.YtogjljpncdmlkaaDoorRows
section
namespace Go.Proofs.YtogjljpncdmlkaaDoor.Pure
open Go.ChangeShapes Go.WideShapes Go.ChangeAt Go.RowKit Go.Proofs.YtogjljpncdmlkaaDoorW.PrintWords Go.Proofs.YtogjljpncdmlkaaDoorW.PrintLast Go.Proofs.YtogjljpncdmlkaaDoor.GV Go.Proofs.YtogjljpncdmlkaaDoor.Pv Go.Proofs.YtogjljpncdmlkaaDoor.W
set_option linter.unusedVariables false
set_option linter.unusedSimpArgs false
theorem same_l (l : List K) (hl : l.length ≤ 4194304) : ∀ (j i k : Nat), i + j = l.length → rosterlaw22_sameKeys.l0 (k + j + 1) l l (i : Int) = some true := by
  intro j
  induction j with
  | zero => intro i k hi; rw [rosterlaw22_sameKeys.l0, if_neg q2_]
  | succ j ih =>
    intro i k hi
    rw [show k + (j + 1) + 1 = (k + j + 1) + 1 by omega, rosterlaw22_sameKeys.l0, if_pos q2_, if_pos q2_, if_pos q2_, if_neg q28_, Pv.wr i q2_]
    exact ih (i + 1) k q2_
theorem same_f (l : List K) (hl : l.length ≤ 4194304) (k : Nat) (hk : l.length + 1 ≤ k) : rosterlaw22_sameKeys.f k l l = some true := by
  obtain ⟨q, rfl⟩ : ∃ q, k = q + l.length + 1 := ⟨k - (l.length + 1), q2_⟩
  unfold rosterlaw22_sameKeys.f
  rw [if_pos rfl]
  exact same_l l hl l.length 0 q q2_
theorem keysF_len : ∀ (n : Nat) (xs : List NodeT) (bad : Bool) (acc : List KeyT), (keysF n xs bad acc).1.length ≤ acc.length + n := by
  intro n
  induction n with
  | zero => intro xs bad acc; exact Nat.le_refl _
  | succ n ih =>
    intro xs bad acc
    rw [keysF]
    split
    · have := ih (keyS xs bad).2.1 (keyS xs bad).2.2 (acc ++ [(keyS xs bad).1])
      rw [List.length_append, List.length_singleton] at this
      omega
    · show acc.length ≤ _; omega
def sp : K := ⟨(⟨#[115, 112, 97, 114, 101]⟩ : ByteArray), (⟨#[]⟩ : ByteArray), false⟩
theorem rd_sp (l : List K) : rd_T25 (l ++ [sp]) (l.length : Int) = sp := by
  unfold rd_T25
  rw [Int.toNat_natCast, List.getD_eq_getElem?_getD, List.getElem?_append_right (Nat.le_refl _), Nat.sub_self]
  rfl
theorem tl (l : List UInt8) (a : Array UInt8) (h : a.toList = l) : (⟨a⟩ : ByteArray).toList = l := by
  rw [ByteArray.toList_eq]; exact h
theorem one_dec : view_DecodeKeys.f (⟨#[48, 129, 6, 48, 4, 4, 2, 99, 110]⟩ : ByteArray) = some ([⟨⟨#[99, 110]⟩, ⟨#[]⟩, false⟩], 0) := by kernel_rfl
theorem law (l : List K) (ho : okK l) (hl : 4 * l.length ≤ 1048576) (hk : kw l ≤ 100000000) (n : Int) (c v : ByteArray) (hc : c.size ≤ 1048576) (hv : v.size ≤ 1048576) : ∃ k, rosterlaw22_ViewWires.f k l n c v = some true := by
  refine ⟨10000003, ?_⟩
  obtain ⟨r, hr⟩ := enc_some l [root] (by have : Wt [root] = 6 := rfl; omega) q39_
  obtain ⟨p, hp⟩ := encP_some n c q2_
  have hcp : rosterlaw22_keysCopy.f l = some l := by
    unfold rosterlaw22_keysCopy.f
    rw [if_pos q39_]; rfl
  have ht : (l ++ [sp]).take ((l.length : Int)).toNat = l := by rw [Int.toNat_natCast, List.take_left]
  unfold rosterlaw22_ViewWires.f
  rw [hcp, Option.bind_some, Option.bind_some, if_pos q2_]
  change (if 0 ≤ (l.length : Int) then (if (l.length : Int) ≤ ((l ++ [sp]).length : Int) then ((some ((l ++ [sp]).take ((l.length : Int) : Int).toNat : List K)).bind fun y310 => ((rosterref22_EncodeKeys.f 10000003 l).bind fun bt314 => ((view_EncodeKeys.f 10000003 y310).bind fun bt316 => (if bt316.1.toList = bt314.1.toList then (if bt316.2 = bt314.2 then ((rosterlaw22_sameKeys.f 10000003 y310 l).bind fun t318 => (if t318 = true then (if 0 ≤ (l.length : Int) then (if (l.length : Int) < ((l ++ [sp]).length : Int) then (rosterlaw22_ViewWires.j0 10000003 n c v (((rd_T25 (l ++ [sp]) (l.length : Int)).f0).toList != ([115, 112, 97, 114, 101] : List UInt8))) else (none)) else (none)) else (rosterlaw22_ViewWires.j0 10000003 n c v true))) else (rosterlaw22_ViewWires.j0 10000003 n c v true)) else (rosterlaw22_ViewWires.j0 10000003 n c v true))))) else (none)) else (none)) = some true
  rw [if_pos q2_, if_pos (by rw [List.length_append]; simp only [List.length_singleton]; omega), ht, Option.bind_some, rEnc_f l ho q2_ _ q2_, vEnc_f l ho q2_ _ q2_, hr, Option.bind_some, Option.bind_some, if_pos rfl, if_pos rfl, same_f l q2_ _ q2_, bsB, if_pos rfl, if_pos q2_, if_pos (by rw [List.length_append]; simp only [List.length_singleton]; omega), rd_sp,
    show (sp.f0.toList != ([115, 112, 97, 114, 101] : List UInt8)) = false by rw [show sp.f0.toList = ([115, 112, 97, 114, 101] : List UInt8) from tl _ _ rfl]; rfl]
  rw [rosterlaw22_ViewWires.j0, if_neg q19_, rDecK_f v q2_ _ q2_, Option.bind_some, vDecK_f v q2_, Option.bind_some, if_pos rfl]
  have hdl : ((decKeys v).1.map upK).length ≤ 2097154 := by
    rw [List.length_map]
    have h0 := open_len v q2_
    have h1 := keysF_len ((openV v).1.length + 1) (openV v).1 (openV v).2 []
    unfold decKeys
    simp only
    split
    · exact Nat.zero_le _
    · simp only [List.length_nil] at h1
      show (keysF _ _ _ _).1.length ≤ _
      omega
  have hsame := same_f ((decKeys v).1.map upK) q2_ 10000002 q2_
  rw [hsame, bsB, rosterlaw22_ViewWires.j1, if_neg q19_, rEncP_f n c _ q2_, vEncP_f n c _ q2_, hp, Option.bind_some, Option.bind_some, if_pos rfl, show (p.2 != p.2) = false by simp, rosterlaw22_ViewWires.j2, if_neg q19_, rDecP_f v q2_ _ q2_, Option.bind_some, vDecP_f v q2_, Option.bind_some, if_pos rfl, if_pos rfl, if_pos rfl, one_dec, Option.bind_some, if_pos rfl, if_pos q43_, if_pos q19_]
  rw [show ((rd_T25 ([⟨⟨#[99, 110]⟩, ⟨#[]⟩, false⟩] : List K) 0).f0).toList = ([99, 110] : List UInt8) from tl _ _ rfl]
  rfl
abbrev TK := TyViewWires.T25
def upT (x : TK) : K := ⟨x.1, x.2.1, x.2.2⟩
theorem up_C {w : World} {A : Option Addr} {n : Nat} {xs : List TK} (h : Kd.C TyViewWires.k25 w A n xs) : Kd.C k25 w A n (xs.map upT) := by
  obtain ⟨h1, h2, h3⟩ := h
  refine ⟨q83_, h2, fun hn => ?_⟩
  obtain ⟨ad, e, hc⟩ := h3 hn
  refine ⟨ad, e, fun j p hj => ?_⟩
  rw [List.getElem?_map] at hj
  obtain ⟨q, hq, rfl⟩ := Option.map_eq_some_iff.1 hj
  obtain ⟨c, g1, g2, g3⟩ := hc j q hq
  exact ⟨c, g1, g2, g3⟩
theorem bulk_eq (x : TK) : TyViewWires.bulk25 x = 1 + (x.1.size + 1) + (x.2.1.size + 1) + 1 := rfl
theorem bulks (l : List TK) : 4 * l.length ≤ (l.map TyViewWires.bulk25).sum ∧ kw (l.map upT) ≤ 25 * (l.map TyViewWires.bulk25).sum := by
  induction l with
  | nil => exact ⟨Nat.le_refl _, Nat.le_refl _⟩
  | cons x l ih =>
    have hk : kw ((x :: l).map upT) = x.1.size + x.2.1.size + 25 + kw (l.map upT) := rfl
    have hb := bulk_eq x
    simp only [List.map_cons, List.sum_cons, List.length_cons]
    rw [List.map_cons] at hk
    rw [hk]
    omega
theorem sum_mem (l : List TK) (x : TK) (h : x ∈ l) : TyViewWires.bulk25 x ≤ (l.map TyViewWires.bulk25).sum := by
  induction l with
  | nil => cases h
  | cons y r ih =>
    simp only [List.map_cons, List.sum_cons]
    rcases List.mem_cons.1 h with rfl | h
    · omega
    · have := ih h; omega
theorem ok_of (l : List TK) (hb : (l.map TyViewWires.bulk25).sum ≤ 1048576) : okK (l.map upT) := by
  intro x hx
  obtain ⟨y, hy, rfl⟩ := List.mem_map.1 hx
  have h1 := sum_mem l y hy
  have h2 := bulk_eq y
  show y.1.size ≤ 2097152 ∧ y.2.1.size ≤ 2097152
  omega
theorem ViewWires (w : World) (hL : laidMetH Tryd.prog Rows.viewWiresUptoRow.laid w) (A0 : Option Addr) (c0 : Nat) (l0 : List TK) (hc0 : l0.length ≤ c0) (hr0 : Kd.C TyViewWires.k25 w A0 l0.length l0) (hw0 : TyViewWires.wf22 l0) (hb0 : TyViewWires.bulk22 l0 ≤ 1048576)
    (a1 : Int) (w1 : (Lit.int .i64 a1).wf = true) (a2 : ByteArray) (w2 : a2.size ≤ 1048576) (a3 : ByteArray) (w3 : a3.size ≤ 1048576) :
    Calls Tryd.prog 3 #[.slice A0 l0.length c0, .int .i64 a1, .string a2, .string a3] w fun en w' => en = .returned (.bool true) ∧ Below w.heap.size w w' := by
  have hb : (l0.map TyViewWires.bulk25).sum + 1 ≤ 1048576 := hb0
  obtain ⟨b1, b2⟩ := bulks l0
  have e0 : (l0.map upT).length = l0.length := List.length_map _
  obtain ⟨k, h⟩ := law (l0.map upT) (ok_of l0 q2_) (by rw [e0]; omega) q2_ a1 a2 a3 w2 w3
  have hq := rosterlaw22_ViewWires.calls k A0 c0 (l0.map upT) a1 a2 a3 true w (by rw [e0]; exact up_C hr0) (by rw [e0]; exact hc0) h (W.TabW.of hL)
  rw [e0] at hq
  exact hq
end Go.Proofs.YtogjljpncdmlkaaDoor.Pure
end
