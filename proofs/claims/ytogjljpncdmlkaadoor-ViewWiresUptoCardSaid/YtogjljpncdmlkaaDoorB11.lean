/- Texts of this claim in one: RwD -/
import Derived.Test.YtogjljpncdmlkaaDoorB3
import Derived.Test.YtogjljpncdmlkaaDoorB8
import Derived.Test.YtogjljpncdmlkaaDoorB9
import Derived.Test.YtogjljpncdmlkaaDoorB10
section
namespace Go.Proofs.YtogjljpncdmlkaaDoor.W
open Go.RowKit Go.Proofs.YtogjljpncdmlkaaDoorW.PrintWords Go.Proofs.YtogjljpncdmlkaaDoorW.PrintLast
set_option linter.unusedVariables false
set_option linter.unusedSimpArgs false
def upJ (x : NodeT) : GJ.S43 := ⟨x.1, x.2.1, x.2.2.1, x.2.2.2.1, x.2.2.2.2⟩
theorem upJ_C {w : World} {A : Option Addr} {n : Nat} {xs : List NodeT} (h : Kd.C kNode w A n xs) : Kd.C GJ.k43 w A n (xs.map upJ) := by
  obtain ⟨h1, h2, h3⟩ := h
  refine ⟨q83_, h2, fun hn => ?_⟩
  obtain ⟨ad, e, hc⟩ := h3 hn
  refine ⟨ad, e, fun j p hj => ?_⟩
  rw [List.getElem?_map] at hj
  obtain ⟨q, hq, rfl⟩ := Option.map_eq_some_iff.1 hj
  obtain ⟨c, g1, g2, g3⟩ := hc j q hq
  exact ⟨c, g1, g2, g3⟩
theorem upJ_rd (xs : List NodeT) (i : Nat) : GJ.rd_T43 (xs.map upJ) (i : Int) = upJ (nd xs i) := by
  unfold GJ.rd_T43 nd
  rw [Int.toNat_natCast, List.getD_eq_getElem?_getD, List.getD_eq_getElem?_getD, List.getElem?_map]
  cases xs[i]? <;> rfl
theorem fine_f (cls tag : Int) : GJ.rosterref02_fine.f cls tag = some (namedB cls tag) := by
  unfold GJ.rosterref02_fine.f namedB
  by_cases a : cls ≥ 0
  · rw [if_pos a]
    by_cases b : cls ≤ 3
    · rw [if_pos b]
      by_cases c : tag ≥ 0
      · rw [if_pos c]
        congr 1
        rw [decide_eq_decide]
        exact ⟨fun h => ⟨a, b, c, q2_⟩, fun h => by omega⟩
      · rw [if_neg c, decide_eq_false q2_]
    · rw [if_neg b, decide_eq_false q2_]
  · rw [if_neg a, decide_eq_false q2_]
theorem front_f (xs : List NodeT) (i : Nat) (hi : i < xs.length) (hl : xs.length ≤ 100000000) (hd : 0 < i → 1 ≤ (nd xs (i - 1)).1 ∧ (nd xs (i - 1)).1 ≤ 64) : GJ.rosterref02_front.f 1 (xs.map upJ) (i : Int) = some (follB (prevOf xs i) (nd xs i)) := by
  have e0 : (xs.map upJ).length = xs.length := List.length_map _
  have p0 : (0 : Int) ≤ i := by omega
  have p1 : (i : Int) < ((xs.map upJ).length : Int) := by rw [e0]; omega
  have hj : ∀ b : Bool, GJ.rosterref02_front.j0 1 (xs.map upJ) (i : Int) b (nd xs i).1 (nd xs i).2.1 (nd xs i).2.2.1 (nd xs i).2.2.2.1 (nd xs i).2.2.2.2 =
      some (!b && match prevOf xs i with | none => decide ((nd xs i).1 = 1) | some (d, m) => decide (2 ≤ (nd xs i).1) && decide ((nd xs i).1 ≤ if m = true then d + 1 else d)) := by
    intro b
    rw [GJ.rosterref02_front.j0]
    cases b
    rotate_left
    · rfl
    rw [if_neg q19_, Bool.not_false, Bool.true_and]
    by_cases z : i = 0
    · subst z
      rw [if_pos (show ((0 : Nat) : Int) = 0 from rfl)]
      rfl
    · obtain ⟨m, rfl⟩ : ∃ m, i = m + 1 := ⟨i - 1, q2_⟩
      have hd := hd q2_
      rw [Nat.add_sub_cancel] at hd
      have ew : wrap64 (((m + 1 : Nat) : Int) - 1) = (m : Int) := by unfold wrap64; omega
      have ew2 : wrap64 ((nd xs m).1 + 1) = (nd xs m).1 + 1 := by unfold wrap64; omega
      have em : (upJ (nd xs m)).f0 = (nd xs m).1 := rfl
      have em2 : (upJ (nd xs m)).f2 = (nd xs m).2.2.1 := rfl
      have ep : prevOf xs (m + 1) = some ((nd xs m).1, (nd xs m).2.2.1) := by
        unfold prevOf
        rw [if_neg z, Nat.add_sub_cancel]
      rw [if_neg (show ¬ ((m + 1 : Nat) : Int) = 0 by omega), ew, if_pos (show (0 : Int) ≤ m by omega), if_pos (show (m : Int) < ((xs.map upJ).length : Int) by rw [e0]; omega), upJ_rd, em, em2, ew2, ep]
      show _ = some (decide (2 ≤ (nd xs (m + 1)).1) && decide ((nd xs (m + 1)).1 ≤ if (nd xs m).2.2.1 = true then (nd xs m).1 + 1 else (nd xs m).1))
      generalize (nd xs (m + 1)).1 = d
      generalize (nd xs m).1 = a
      cases (nd xs m).2.2.1
      · rw [if_neg (show ¬ false = true by decide)]
        by_cases c1 : d < 2
        · rw [if_pos c1, decide_eq_false q2_]; rfl
        rw [if_neg c1, decide_eq_true (by omega : 2 ≤ d)]
        by_cases c2 : d > a + 1
        · rw [if_pos c2, decide_eq_false q2_]; rfl
        rw [if_neg c2]
        by_cases c3 : d ≤ a
        · rw [if_pos c3, decide_eq_true c3]; rfl
        · rw [if_neg c3, decide_eq_false c3]; rfl
      · rw [if_pos (show true = true from rfl)]
        by_cases c1 : d < 2
        · rw [if_pos c1, decide_eq_false q2_]; rfl
        rw [if_neg c1, decide_eq_true (by omega : 2 ≤ d)]
        by_cases c2 : d > a + 1
        · rw [if_pos c2, decide_eq_false q2_]; rfl
        rw [if_neg c2, decide_eq_true (by omega : d ≤ a + 1)]
        by_cases c3 : d ≤ a
        · rw [if_pos c3]; rfl
        · rw [if_neg c3]; rfl
  unfold GJ.rosterref02_front.f
  rw [if_pos p0, if_pos p1, upJ_rd]
  have e1 : (upJ (nd xs i)).f1 = (nd xs i).2.1 := rfl
  have e2 : (upJ (nd xs i)).f2 = (nd xs i).2.2.1 := rfl
  have e3 : (upJ (nd xs i)).f3 = (nd xs i).2.2.2.1 := rfl
  have e4 : (upJ (nd xs i)).f4 = (nd xs i).2.2.2.2 := rfl
  have e5 : (upJ (nd xs i)).f0 = (nd xs i).1 := rfl
  rw [e1, e2, e3, e4, e5, fine_f, Option.bind_some, hj, hj, hj]
  unfold follB
  cases hn : namedB (nd xs i).2.1 (nd xs i).2.2.2.1
  · rw [if_neg q19_]; rfl
  rw [if_pos rfl, Bool.true_and]
  cases (nd xs i).2.2.1
  · rw [if_neg q19_]; rfl
  rw [if_pos rfl, Bool.true_and]
  congr 3
  by_cases c : (nd xs i).2.2.2.2.size = 0
  · rw [(toList_emp _).2.2 c, decide_eq_false q2_]; rfl
  · rw [decide_eq_true c, bne_iff_ne]
    exact fun h => c ((toList_emp _).2.1 h)
theorem front_any (A : Option Addr) (c : Nat) (xs : List NodeT) (i : Nat) (w : World) (hR : Kd.C kNode w A xs.length xs) (hc : xs.length ≤ c) (hi : i < xs.length) (hl : xs.length ≤ 100000000) (hd : 0 < i → 1 ≤ (nd xs (i - 1)).1 ∧ (nd xs (i - 1)).1 ≤ 64) :
    Calls Tryd.prog 38 #[.slice A xs.length c, .int .i64 i] w fun en w' => en = .returned (.bool (follB (prevOf xs i) (nd xs i))) ∧ Below w.heap.size w w' := by
  have e0 : (xs.map upJ).length = xs.length := List.length_map _
  have h := GJ.rosterref02_front.calls 1 A c (xs.map upJ) (i : Int) _ w (by rw [e0]; exact upJ_C hR) (by rw [e0]; exact hc) (front_f xs i hi hl hd)
  rw [e0] at h
  exact h
theorem refheader_any (cls tag n : Int) (made : Bool) (w : World) (h : okN cls tag) (h0 : 0 ≤ n) (h1 : n ≤ 134217728) :
    Calls Tryd.prog 39 #[.int .i64 cls, .bool made, .int .i64 tag, .int .i64 n] w fun en w' => ∃ A c, en = .returned (.slice A (headB cls made tag n (wideK n)).length c) ∧ ReadsInt w' .u8 A (headB cls made tag n (wideK n)).length (headB cls made tag n (wideK n)) ∧ Below w.heap.size w w' := by
  have hf := header_f cls tag n made h.1 h.2.1 h.2.2.1 h.2.2.2 h0 q2_
  have e : firstOf cls made tag :: lenNums n = headB cls made tag n (wideK n) := by
    unfold headB
    rw [first_eq h.1 h.2.1 h.2.2.1 (by have := h.2.2.2; omega), lenNums_eq h0 q2_]
  rw [e] at hf
  refine (GJ.rosterref02_header.calls 40 cls made tag n _ w hf).mono ?_
  rintro en w' ⟨v, rfl, hR, hb⟩
  obtain ⟨A, c, rfl, hr⟩ := own_reads (Kd.own_of_R (h1 := fun _ => rfl) hR)
  exact ⟨A, c, rfl, hr, hb⟩
end Go.Proofs.YtogjljpncdmlkaaDoor.W
namespace Go.Proofs.YtogjljpncdmlkaaDoor.W
open Go.RowKit Go.Proofs.YtogjljpncdmlkaaDoorW.PrintWords Go.Proofs.YtogjljpncdmlkaaDoorW.PrintLast
set_option linter.unusedVariables false
set_option linter.unusedSimpArgs false
def lenA (xs : List NodeT) (i : Nat) : Array Value := ((List.range xs.length).map fun j => Value.int .i64 (if i ≤ j then lenS xs j (sums short xs (xs.length - (j + 1))) else 0)).toArray
theorem lenA_get (xs : List NodeT) (i j : Nat) (h : j < xs.length) : (lenA xs i)[j]? = some (.int .i64 (if i ≤ j then lenS xs j (sums short xs (xs.length - (j + 1))) else 0)) := by
  unfold lenA
  simp [h]
theorem lenA_set (xs : List NodeT) (i : Nat) : (lenA xs (i + 1)).setIfInBounds i (.int .i64 (lenS xs i (sums short xs (xs.length - (i + 1))))) = lenA xs i := by
  unfold lenA
  apply Array.ext
  · simp
  · intro j h1 h2
    simp at h1 h2
    simp only [List.setIfInBounds_toArray, List.getElem_toArray]
    rw [List.getElem_set]
    by_cases h : i = j
    · subst h
      simp
    · rw [if_neg h]
      simp only [List.getElem_map, List.getElem_range]
      by_cases h3 : i ≤ j
      · rw [if_pos h3, if_pos q2_]
      · rw [if_neg h3, if_neg q2_]
theorem lenA_start (xs : List NodeT) : madeCells #[.int .i64 0] xs.length = lenA xs xs.length := by
  unfold lenA madeCells
  apply Array.ext
  · simp
  · intro j h1 h2
    simp at h1 h2
    simp only [List.getElem_toArray, List.getElem_map, List.getElem_range]
    rw [if_neg q2_]
    have e : j % 1 = 0 := Nat.mod_one j
    simp [h1, e]
theorem lenA_size (xs : List NodeT) (i : Nat) : (lenA xs i).size = xs.length := by unfold lenA; simp
theorem infoIntW : (Tryd.prog.info? 3).map (fun i => (i.zero, i.size, i.bytes)) = some (some (.int .i64 0), 1, 8) := by kernel_rfl
theorem short_le (i : Nat) (n : Int) : short i n ≤ 4 := by
  unfold short wideK
  repeat' split
  all_goals omega
theorem set_set (a : Array Value) (k : Nat) (u v : Value) : (a.setIfInBounds k u).setIfInBounds k v = a.setIfInBounds k v := by
  obtain ⟨l⟩ := a
  simp only [List.setIfInBounds_toArray, List.set_set]
theorem badN_skip (xs : List NodeT) (p : Nat) (hp : p ≤ xs.length) : ∀ (t i n : Nat), i + t = p → (∀ j, i ≤ j → j < p → follB (prevOf xs j) (nd xs j) = true ∧ (nd xs j).1 ≤ 64) → badN xs (n + t) i = badN xs n p := by
  intro t
  induction t with
  | zero => intro i n h _; rw [Nat.add_zero] at h; rw [h]; rfl
  | succ t ih =>
    intro i n h hg
    have g := hg i (Nat.le_refl _) q2_
    rw [show n + (t + 1) = (n + t) + 1 by omega, badN, if_pos q2_, if_pos g.1, if_neg q2_]
    exact ih (i + 1) n q2_ (fun j a b => hg j q2_ b)
theorem badN_first (xs : List NodeT) (p : Nat) (hp : p < xs.length) (hg : ∀ j, j < p → follB (prevOf xs j) (nd xs j) = true ∧ (nd xs j).1 ≤ 64) :
    (follB (prevOf xs p) (nd xs p) = false → badN xs (xs.length + 1) 0 = some (28, (p : Int))) ∧ (follB (prevOf xs p) (nd xs p) = true → 64 < (nd xs p).1 → badN xs (xs.length + 1) 0 = some (25, (p : Int))) := by
  obtain ⟨m, hm⟩ : ∃ m, xs.length + 1 = (m + 1) + p := ⟨xs.length - p, q2_⟩
  rw [hm, badN_skip xs p q2_ p 0 (m + 1) q2_ (fun j _ b => hg j b), badN, if_pos hp]
  exact ⟨fun h => by rw [h, if_neg q19_], fun h h2 => by rw [h, if_pos rfl, if_pos h2]⟩
theorem writeS_bad (xs : List NodeT) (h0 : 0 < xs.length) (e a : Int) (h : badN xs (xs.length + 1) 0 = some (e, a)) : writeS xs = (⟨#[]⟩, e, a) := by
  unfold writeS
  rw [if_neg q2_, h]
theorem soundN_of (xs : List NodeT) : ∀ (n i : Nat), (∀ j, i ≤ j → j < i + n → goodAt xs j = true) → soundN xs n i = true := by
  intro n
  induction n with
  | zero => intro i _; rfl
  | succ n ih =>
    intro i h
    rw [soundN, h i (Nat.le_refl _) q2_, Bool.true_and]
    exact ih (i + 1) (fun j a b => h j q2_ q2_)
theorem sound_of (xs : List NodeT) (h0 : 0 < xs.length) (hg : ∀ j, j < xs.length → follB (prevOf xs j) (nd xs j) = true ∧ (nd xs j).1 ≤ 64) : soundB xs = true := by
  unfold soundB
  rw [decide_eq_true h0, Bool.and_true]
  refine soundN_of xs xs.length 0 (fun j _ b => ?_)
  have := hg j q2_
  unfold goodAt
  rw [this.1, decide_eq_true this.2]
  rfl
theorem bytesOf_inj {a b : ByteArray} (h : bytesOf a = bytesOf b) : a = b := by
  rw [← str_bytes a, ← str_bytes b, h]
theorem write_cat (xs : List NodeT) (h : soundB xs = true) (hw : wt xs 0 xs.length ≤ 134217728) : writeS xs = (catS short xs xs.length, 0, 0) := by
  obtain ⟨b, h1, h2⟩ := write_sound xs h hw
  obtain ⟨hs, h0⟩ := sound_snd h
  have h3 := cat_tree short xs hs h0 short_le short_ok q2_
  rw [h1, bytesOf_inj (h2.trans h3.symm)]
end Go.Proofs.YtogjljpncdmlkaaDoor.W
namespace Go.Proofs.YtogjljpncdmlkaaDoor.W
open Go.RowKit Go.Proofs.YtogjljpncdmlkaaDoorW.PrintWords Go.Proofs.YtogjljpncdmlkaaDoorW.PrintLast
set_option linter.unusedVariables false
set_option linter.unusedSimpArgs false
theorem foll_pos {b : Option (Int × Bool)} {n : NodeT} (h : follB b n = true) : 1 ≤ n.1 := by
  unfold follB at h
  rw [Bool.and_eq_true] at h
  have h2 := h.2
  cases b with
  | none =>
    simp only [decide_eq_true_eq] at h2
    omega
  | some x =>
    obtain ⟨d, m⟩ := x
    simp only [Bool.and_eq_true, decide_eq_true_eq] at h2
    omega
def Good (xs : List NodeT) (i : Nat) : Prop := ∀ j, j < i → follB (prevOf xs j) (nd xs j) = true ∧ (nd xs j).1 ≤ 64
set_option maxRecDepth 100000 in
set_option maxHeartbeats 4000000 in
theorem rwrite_some (A : Option Addr) (c : Nat) (xs : List NodeT) (w : World) (hC : Kd.C kNode w A xs.length xs) (hc : xs.length ≤ c) (h0 : 0 < xs.length) (hL : xs.length ≤ 100000000 ∧ wt xs 0 xs.length ≤ 134217728) :
    Calls Tryd.prog 20 #[.slice A xs.length c] w fun en w' => en = .returned (.tuple #[.string (writeS xs).1, .int .i64 (writeS xs).2.1, .int .i64 (writeS xs).2.2]) ∧ Below w.heap.size w w' := by
  obtain ⟨ad, rfl, -⟩ := node_at hC 0 h0
  obtain ⟨hfew, hw⟩ := hL
  have hz0 : ((xs.length : Int) == 0) = false := by rw [beq_eq_false_iff_ne]; omega
  have hmk : ∀ W : World, (Instr.makeSlice 70 (.int .i64 (xs.length : Int)) (.int .i64 (xs.length : Int))).run Tryd.prog W = .ok (.slice (some ⟨W.heap.size, 0, none⟩) xs.length xs.length) (W.alloc (.cells (lenA xs xs.length) 3)) := by
    intro W
    obtain ⟨i, hi, hzz⟩ := Option.map_eq_some_iff.1 infoIntW
    simp only [Prod.mk.injEq] at hzz
    obtain ⟨hz, hsz1, hb⟩ := hzz
    have hr := run_make (P := Tryd.prog) W 70 3 i (.int .i64 0) q9_ hi hz .i64 .i64 xs.length xs.length q2_ (Int.le_refl _) (by rw [hb]; omega) q2_
    simp only [Int.toNat_natCast, hsz1, Nat.mul_one] at hr
    rw [hr, ← lenA_start]
    rfl
  have HC := Lib.hid hC
  clear hC
  go_enter Tryd.func20, Tryd.ntmps20
  go_wp2
  go_loopw [5] (fun v wr => ∃ i : Nat, v = .int .i64 i ∧ i ≤ xs.length ∧ Hid (Good xs i) ∧ Below w.heap.size w wr) (fun v _ => xs.length - (intOf v).toNat)
  case atStart => exact ⟨0, rfl, Nat.zero_le _, Lib.hid (fun j hj => absurd hj (Nat.not_lt_zero _)), Below.refl _ _⟩
  case round =>
    obtain ⟨i, rfl, hi, HG, hb⟩ := hrel
    by_cases hil : i < xs.length
    · have hd : 0 < i → 1 ≤ (nd xs (i - 1)).1 ∧ (nd xs (i - 1)).1 ≤ 64 := fun h => ⟨foll_pos (HG.out (i - 1) q2_).1, (HG.out (i - 1) q2_).2⟩
      have HD := Lib.hid hd
      have HB := Lib.hid hb
      have i0 : (0 : Int) ≤ i := by omega
      have i1 : (i : Int) < xs.length := by omega
      clear hd hb
      go_wp2_with fail
      refine (front_any _ c xs i _ (Kd.C_below HC.out HB.out) hc hil hfew HD.out).mono ?_
      rintro en w2 ⟨rfl, b2⟩
      have hb2 := below_step HB.out b2
      obtain ⟨ad', e', m0, m1, m2, m3, m4⟩ := node_at (Kd.C_below HC.out hb2) i hil
      obtain rfl : ad = ad' := Option.some.inj e'
      have hbl : (ad.add (i * 5)).block < w2.heap.size := World.block_lt_of_cell? w2 _ m0
      obtain ⟨q, hq⟩ : ∃ q, q = follB (prevOf xs i) (nd xs i) := ⟨_, rfl⟩
      rw [← hq]
      obtain ⟨d, hdd⟩ : ∃ d, d = (nd xs i).1 := ⟨_, rfl⟩
      rw [← hdd] at m0
      have HQ := Lib.hid hq
      have HDD := Lib.hid hdd
      have HB2 := Lib.hid hb2
      clear hq hdd m1 m2 m3 m4 e' b2 hb2 HB
      cases q with
      | false =>
        go_wp2
        go_ret3
        exact ⟨by rw [writeS_bad xs h0 28 i ((badN_first xs i hil HG.out).1 HQ.out.symm)]; rfl, HB2.out⟩
      | true =>
        by_cases c64 : 64 < d
        · go_wp2
          go_ret3
          exact ⟨by rw [writeS_bad xs h0 25 i ((badN_first xs i hil HG.out).2 HQ.out.symm (by rw [← HDD.out]; exact c64))]; rfl, HB2.out⟩
        · have C64 := Lib.hid c64
          clear c64
          have c65 : d ≤ 64 := by have := C64.out; omega
          go_wp2
          go_roundw
          case rel =>
            exact ⟨i + 1, by go_num, q2_, Lib.hid (fun j hj => by
              by_cases e : j = i
              · subst e; exact ⟨HQ.out.symm, by rw [← HDD.out]; have := C64.out; omega⟩
              · exact HG.out j q2_), HB2.out⟩
          case measure => simp [intOf]; omega
    · obtain rfl : i = xs.length := by omega
      have hsb := sound_of xs h0 HG.out
      have hs := (sound_snd hsb).1
      have hwc := write_cat xs hsb hw
      have HWC := Lib.hid hwc
      have HS := Lib.hid hs
      have HSB := Lib.hid hsb
      clear hwc hs hsb HG
      obtain ⟨w0, hw0⟩ : ∃ w0, w0 = wr := ⟨_, rfl⟩
      subst hw0
      have zb := hb.size
      go_wp2_with fail
      go_loopw [9] (fun i wr => ∃ k : Nat, k ≤ xs.length ∧ i = .int .i64 ((k : Int) - 1) ∧ At wr (w0.heap.size + 1) 3 (lenA xs k) ∧ At wr w0.heap.size 69 (arr66 (sums short xs (xs.length - k))) ∧ Below w.heap.size w wr)
        (fun i _ => (intOf i + 1).toNat)
      case atStart =>
        refine ⟨xs.length, Nat.le_refl _, rfl, ?_, ?_, ?_⟩
        · have := At.new (w0.alloc (.cells Tryd.zeroCells69 69)) 3 (lenA xs xs.length)
          simp at this
          exact this
        · rw [Nat.sub_self]
          exact (At.new w0 69 Tryd.zeroCells69).alloc _
        · exact (hb.alloc zb _).alloc q39_ _
      case round =>
        obtain ⟨k, hk, hi', rL, rS, qB⟩ := hrel
        have zw := qB.size
        cases k with
        | zero =>
          have e0 : ((0 : Nat) : Int) - 1 = -1 := rfl
          rw [e0] at hi'
          clear rS e0
          subst hi'
          go_wp2_with fail
          obtain ⟨w1, hw1⟩ : ∃ w1, w1 = wr := ⟨_, rfl⟩
          subst hw1
          go_loopw [12, 13] (fun v i wr => ∃ j : Nat, j ≤ xs.length ∧ i = .int .i64 (j : Nat) ∧ wr.ownsRow w1.heap.size 5 1 v (bytesOf (catS short xs j)).length (nums .u8 (bytesOf (catS short xs j))) ∧ At wr (w0.heap.size + 1) 3 (lenA xs 0) ∧ Below w.heap.size w wr ∧ w1.heap.size ≤ wr.heap.size)
            (fun _ i _ => xs.length - (intOf i).toNat)
          case atStart => exact ⟨0, Nat.zero_le _, rfl, own_nil _ _ _ _, rL, qB, Nat.le_refl _⟩
          case round =>
            obtain ⟨j, hj, rfl, rO, rL2, qB2, zl⟩ := hrel
            obtain ⟨Ab, cb, rfl⟩ := own_slice rO
            have hcs := cat_size short xs short_le j hj
            have hwj := wt_all xs j
            have lL := rL2.lt
            by_cases hjl : j < xs.length
            · obtain ⟨ad', e', m0, m1, m2, m3, m4⟩ := node_at (Kd.C_below HC.out qB2) j hjl
              obtain rfl : ad = ad' := Option.some.inj e'
              have hh := hed_size short xs short_le j
              have hwo := wt_one xs hjl
              have hws := wt_split xs (i := 0) (j := j) (k := j + 1) q2_ q2_
              have hwa := wt_all xs (j + 1)
              obtain ⟨len, hlen⟩ : ∃ len, len = lenS xs j (sums short xs (xs.length - (j + 1))) := ⟨_, rfl⟩
              have hn3 : 0 ≤ len ∧ len ≤ 134217728 := by
                have := lenS_le short xs HS.out short_le j hjl
                rw [← hlen] at this
                omega
              have hLL : ∀ V, At V (w0.heap.size + 1) 3 (lenA xs 0) → V.cell? ⟨w0.heap.size + 1, j, none⟩ = some (.int .i64 len) := fun V h => by
                rw [h.cell j, lenA_get xs 0 j hjl, if_pos (Nat.zero_le j), ← hlen]
              have hok := HS.out.name j hjl
              obtain ⟨H, hH⟩ : ∃ H, H = hedS short xs j := ⟨_, rfl⟩
              have hHb : bytesOf H = headB (nd xs j).2.1 (nd xs j).2.2.1 (nd xs j).2.2.2.1 len (wideK len) := by
                rw [hH]
                show bytesOf (headS (nd xs j).2.1 (nd xs j).2.2.1 (nd xs j).2.2.2.1 (lenS xs j (sums short xs (xs.length - (j + 1)))) (short j (lenS xs j (sums short xs (xs.length - (j + 1)))))) = _
                rw [← hlen]
                exact headS_bytes hok (wide_ok hn3.1 q2_) hn3.1
              rw [← hH] at hh
              have hHead : ∀ W : World, Calls Tryd.prog 39 #[.int .i64 (nd xs j).2.1, .bool (nd xs j).2.2.1, .int .i64 (nd xs j).2.2.2.1, .int .i64 len] W fun en w' => ∃ A c, en = .returned (.slice A (bytesOf H).length c) ∧ ReadsInt w' .u8 A (bytesOf H).length (bytesOf H) ∧ Below W.heap.size W w' := fun W => by
                rw [hHb]
                exact refheader_any (nd xs j).2.1 (nd xs j).2.2.2.1 len (nd xs j).2.2.1 W hok hn3.1 hn3.2
              obtain ⟨nb, hnb⟩ : ∃ nb, nb = (nd xs j).2.2.2.2 := ⟨_, rfl⟩
              rw [← hnb] at hwo
              obtain ⟨b, hb'⟩ : ∃ b, b = catS short xs j := ⟨_, rfl⟩
              have hnext : Hid (catS short xs (j + 1) = b ++ H ++ nb) := by
                show catS short xs (j + 1) = b ++ H ++ nb
                rw [catS, hb', hH, hnb]
              rw [← hb'] at rO hcs
              rw [← hb']
              have hlen1 : ((bytesOf b).length + (bytesOf H).length) * 1 ≤ 140737488355328 := by rw [bytesOf_length, bytesOf_length]; omega
              have hlen2 : (bytesOf (b ++ H)).length + nb.size ≤ 140737488355328 := by rw [bytesOf_length, ByteArray.size_append]; omega
              have j0 : (0 : Int) ≤ (j : Int) := by omega
              have j1 : (j : Int) < (xs.length : Int) := by omega
              have HHead := Lib.hid hHead
              have HLL := Lib.hid hLL
              have HNB := Lib.hid hnb
              obtain ⟨nc, hnc⟩ : ∃ x, x = (nd xs j).2.1 := ⟨_, rfl⟩
              obtain ⟨nm, hnm⟩ : ∃ x, x = (nd xs j).2.2.1 := ⟨_, rfl⟩
              obtain ⟨nt, hnt⟩ : ∃ x, x = (nd xs j).2.2.2.1 := ⟨_, rfl⟩
              rw [← hnc, ← hnm, ← hnt] at HHead
              rw [← hnc] at m1
              rw [← hnm] at m2
              rw [← hnt] at m3
              have HNC := Lib.hid hnc
              have HNM := Lib.hid hnm
              have HNT := Lib.hid hnt
              clear hHead hLL hnb hH hHb hb' e' m0 m4 hcs hwj hwo hws hwa hh hok hlen hnc hnm hnt
              go_upto_region 29 with fail
              go_cut [14] from 108 to 127 (fun v14 wx => ∃ Ah ch, v14 = .slice Ah (bytesOf H).length ch ∧ ReadsInt wx .u8 Ah (bytesOf H).length (bytesOf H) ∧ wx.ownsRow w1.heap.size 5 1 (.slice Ab (bytesOf b).length cb) (bytesOf b).length (nums .u8 (bytesOf b)) ∧ At wx (w0.heap.size + 1) 3 (lenA xs 0) ∧ Below w.heap.size w wx ∧ w1.heap.size ≤ wx.heap.size)
              case first =>
                refine start_ (n := 21) (S := fun V => V.cell? ⟨(ad.add (j * 5)).block, (ad.add (j * 5)).off + 1, none⟩ = some (.int .i64 nc) ∧ V.cell? ⟨(ad.add (j * 5)).block, (ad.add (j * 5)).off + 2, none⟩ = some (.bool nm) ∧ V.cell? ⟨(ad.add (j * 5)).block, (ad.add (j * 5)).off + 3, none⟩ = some (.int .i64 nt) ∧ V.cell? ⟨w0.heap.size + 1, j, none⟩ = some (.int .i64 len)) (ds := []) #[false, false, false, false, false, false, false, false, false, false, false, false, false, false, false, false, false, false, false, false, false] q9_ rfl rfl ⟨m1, m2, m3, HLL.out _ rL2.drew⟩ (fun hHeld => ?_)
                refine pure_ (i := 0) (N := some 108) (v := ?_) (a' := ?_) #[true, false, false, false, false, false, false, false, false, false, false, false, false, false, false, false, false, false, false, false, false] rfl rfl q9_ (fun _ _ _ h => h) (Or.inl ⟨q43_, ?_⟩) ?_ ?_
                rotate_left
                · intro w'
                  go_simp
                  with_reducible rfl
                rotate_left
                · simp only [Act.put, List.setIfInBounds_toArray, List.set_cons_zero, List.set_cons_succ, i64_w, i32_w]
                  rfl
                refine pure_ (i := 1) (N := some 109) (v := ?_) (a' := ?_) #[true, true, false, false, false, false, false, false, false, false, false, false, false, false, false, false, false, false, false, false, false] rfl rfl q9_ (fun _ _ _ h => h) (Or.inl ⟨q43_, ?_⟩) ?_ ?_
                rotate_left
                · intro w'
                  go_simp
                  with_reducible rfl
                rotate_left
                · simp only [Act.put, List.setIfInBounds_toArray, List.set_cons_zero, List.set_cons_succ, i64_w, i32_w]
                  rfl
                refine pure_ (i := 2) (N := some 110) (v := ?_) (a' := ?_) #[true, true, true, false, false, false, false, false, false, false, false, false, false, false, false, false, false, false, false, false, false] rfl rfl q9_ (fun _ _ _ h => h) (Or.inl ⟨q43_, ?_⟩) ?_ ?_
                rotate_left
                · intro w'
                  go_simp
                  with_reducible rfl
                rotate_left
                · simp only [Act.put, List.setIfInBounds_toArray, List.set_cons_zero, List.set_cons_succ, i64_w, i32_w]
                  rfl
                refine pure_ (i := 3) (N := some 111) (v := ?_) (a' := ?_) #[true, true, true, true, false, false, false, false, false, false, false, false, false, false, false, false, false, false, false, false, false] rfl rfl q9_ (fun _ _ _ h => h) (Or.inl ⟨q43_, ?_⟩) ?_ ?_
                rotate_left
                · intro w'
                  go_simp
                  with_reducible rfl
                rotate_left
                · simp only [Act.put, List.setIfInBounds_toArray, List.set_cons_zero, List.set_cons_succ, i64_w, i32_w]
                  rfl
                refine pure_ (i := 5) (N := some 113) (v := ?_) (a' := ?_) #[true, true, true, true, false, true, false, false, false, false, false, false, false, false, false, false, false, false, false, false, false] rfl rfl q9_ (fun _ _ _ h => h) (Or.inl ⟨q43_, ?_⟩) ?_ ?_
                rotate_left
                · intro w'
                  go_simp
                  with_reducible rfl
                rotate_left
                · simp only [Act.put, List.setIfInBounds_toArray, List.set_cons_zero, List.set_cons_succ, i64_w, i32_w]
                  rfl
                refine pure_ (i := 6) (N := some 114) (v := ?_) (a' := ?_) #[true, true, true, true, false, true, true, false, false, false, false, false, false, false, false, false, false, false, false, false, false] rfl rfl q9_ (fun _ _ _ h => h) (Or.inl ⟨q43_, ?_⟩) ?_ ?_
                rotate_left
                · intro w'
                  go_simp
                  with_reducible rfl
                rotate_left
                · simp only [Act.put, List.setIfInBounds_toArray, List.set_cons_zero, List.set_cons_succ, i64_w, i32_w]
                  rfl
                refine pure_ (i := 7) (N := some 115) (v := ?_) (a' := ?_) #[true, true, true, true, false, true, true, true, false, false, false, false, false, false, false, false, false, false, false, false, false] rfl rfl q9_ (fun _ _ _ h => h) (Or.inl ⟨q43_, ?_⟩) ?_ ?_
                rotate_left
                · intro w'
                  go_simp
                  with_reducible rfl
                rotate_left
                · simp only [Act.put, List.setIfInBounds_toArray, List.set_cons_zero, List.set_cons_succ, i64_w, i32_w]
                  rfl
                refine pure_ (i := 8) (N := some 116) (v := ?_) (a' := ?_) #[true, true, true, true, false, true, true, true, true, false, false, false, false, false, false, false, false, false, false, false, false] rfl rfl q9_ (fun _ _ _ h => h) (Or.inl ⟨q43_, ?_⟩) ?_ ?_
                rotate_left
                · intro w'
                  go_simp
                  with_reducible rfl
                rotate_left
                · simp only [Act.put, List.setIfInBounds_toArray, List.set_cons_zero, List.set_cons_succ, i64_w, i32_w]
                  rfl
                refine pure_ (i := 10) (N := some 118) (v := ?_) (a' := ?_) #[true, true, true, true, false, true, true, true, true, false, true, false, false, false, false, false, false, false, false, false, false] rfl rfl q9_ (fun _ _ _ h => h) (Or.inl ⟨q43_, ?_⟩) ?_ ?_
                rotate_left
                · intro w'
                  go_simp
                  with_reducible rfl
                rotate_left
                · simp only [Act.put, List.setIfInBounds_toArray, List.set_cons_zero, List.set_cons_succ, i64_w, i32_w]
                  rfl
                refine pure_ (i := 11) (N := some 119) (v := ?_) (a' := ?_) #[true, true, true, true, false, true, true, true, true, false, true, true, false, false, false, false, false, false, false, false, false] rfl rfl q9_ (fun _ _ _ h => h) (Or.inl ⟨q43_, ?_⟩) ?_ ?_
                rotate_left
                · intro w'
                  go_simp
                  with_reducible rfl
                rotate_left
                · simp only [Act.put, List.setIfInBounds_toArray, List.set_cons_zero, List.set_cons_succ, i64_w, i32_w]
                  rfl
                refine pure_ (i := 12) (N := some 120) (v := ?_) (a' := ?_) #[true, true, true, true, false, true, true, true, true, false, true, true, true, false, false, false, false, false, false, false, false] rfl rfl q9_ (fun _ _ _ h => h) (Or.inl ⟨q43_, ?_⟩) ?_ ?_
                rotate_left
                · intro w'
                  go_simp
                  with_reducible rfl
                rotate_left
                · simp only [Act.put, List.setIfInBounds_toArray, List.set_cons_zero, List.set_cons_succ, i64_w, i32_w]
                  rfl
                refine pure_ (i := 13) (N := some 121) (v := ?_) (a' := ?_) #[true, true, true, true, false, true, true, true, true, false, true, true, true, true, false, false, false, false, false, false, false] rfl rfl q9_ (fun _ _ _ h => h) (Or.inl ⟨q43_, ?_⟩) ?_ ?_
                rotate_left
                · intro w'
                  go_simp
                  with_reducible rfl
                rotate_left
                · simp only [Act.put, List.setIfInBounds_toArray, List.set_cons_zero, List.set_cons_succ, i64_w, i32_w]
                  rfl
                refine pure_ (i := 15) (N := some 123) (v := ?_) (a' := ?_) #[true, true, true, true, false, true, true, true, true, false, true, true, true, true, false, true, false, false, false, false, false] rfl rfl q9_ (fun _ _ _ h => h) (Or.inl ⟨q43_, ?_⟩) ?_ ?_
                rotate_left
                · intro w'
                  go_simp
                  with_reducible rfl
                rotate_left
                · simp only [Act.put, List.setIfInBounds_toArray, List.set_cons_zero, List.set_cons_succ, i64_w, i32_w]
                  rfl
                refine pure_ (i := 16) (N := some 124) (v := ?_) (a' := ?_) #[true, true, true, true, false, true, true, true, true, false, true, true, true, true, false, true, true, false, false, false, false] rfl rfl q9_ (fun _ _ _ h => h) (Or.inl ⟨q43_, ?_⟩) ?_ ?_
                rotate_left
                · intro w'
                  go_simp
                  with_reducible rfl
                rotate_left
                · simp only [Act.put, List.setIfInBounds_toArray, List.set_cons_zero, List.set_cons_succ, i64_w, i32_w]
                  rfl
                refine pure_ (i := 17) (N := some 125) (v := ?_) (a' := ?_) #[true, true, true, true, false, true, true, true, true, false, true, true, true, true, false, true, true, true, false, false, false] rfl rfl q9_ (fun _ _ _ h => h) (Or.inl ⟨q43_, ?_⟩) ?_ ?_
                rotate_left
                · intro w'
                  go_simp
                  with_reducible rfl
                rotate_left
                · simp only [Act.put, List.setIfInBounds_toArray, List.set_cons_zero, List.set_cons_succ, i64_w, i32_w]
                  rfl
                refine take_ (i := 4) (N := some 112) (v := ?_) (a' := ?_) #[true, true, true, true, true, true, true, true, true, false, true, true, true, true, false, true, true, true, false, false, false] rfl rfl q9_ (fun _ _ _ h => h) (Or.inl ⟨q43_, ?_⟩) hHeld ?_ ?_
                rotate_left
                · rintro w' ⟨s1, s2, s3, s4⟩
                  go_simp
                  with_reducible rfl
                rotate_left
                · simp only [Act.put, List.setIfInBounds_toArray, List.set_cons_zero, List.set_cons_succ, i64_w, i32_w]
                  rfl
                refine take_ (i := 9) (N := some 117) (v := ?_) (a' := ?_) #[true, true, true, true, true, true, true, true, true, true, true, true, true, true, false, true, true, true, false, false, false] rfl rfl q9_ (fun _ _ _ h => h) (Or.inl ⟨q43_, ?_⟩) hHeld ?_ ?_
                rotate_left
                · rintro w' ⟨s1, s2, s3, s4⟩
                  go_simp
                  with_reducible rfl
                rotate_left
                · simp only [Act.put, List.setIfInBounds_toArray, List.set_cons_zero, List.set_cons_succ, i64_w, i32_w]
                  rfl
                refine take_ (i := 14) (N := some 122) (v := ?_) (a' := ?_) #[true, true, true, true, true, true, true, true, true, true, true, true, true, true, true, true, true, true, false, false, false] rfl rfl q9_ (fun _ _ _ h => h) (Or.inl ⟨q43_, ?_⟩) hHeld ?_ ?_
                rotate_left
                · rintro w' ⟨s1, s2, s3, s4⟩
                  go_simp
                  with_reducible rfl
                rotate_left
                · simp only [Act.put, List.setIfInBounds_toArray, List.set_cons_zero, List.set_cons_succ, i64_w, i32_w]
                  rfl
                refine take_ (i := 18) (N := some 126) (v := ?_) (a' := ?_) #[true, true, true, true, true, true, true, true, true, true, true, true, true, true, true, true, true, true, true, false, false] rfl rfl q9_ (fun _ _ _ h => h) (Or.inl ⟨q43_, ?_⟩) hHeld ?_ ?_
                rotate_left
                · rintro w' ⟨s1, s2, s3, s4⟩
                  go_simp
                  with_reducible rfl
                rotate_left
                · simp only [Act.put, List.setIfInBounds_toArray, List.set_cons_zero, List.set_cons_succ, i64_w, i32_w]
                  rfl
                refine one_ (i := 19) (N := some 127) #[true, true, true, true, true, true, true, true, true, true, true, true, true, true, true, true, true, true, true, true, false] rfl rfl q9_ q19_ (fun K hK => ?_)
                refine goes_ Tryd.func39 q9_ rfl #[.int .i64 nc, .bool nm, .int .i64 nt, .int .i64 len] q43_ rfl rfl (by simp [Act.eval]) ?_
                refine (HHead.out _).mono ?_
                rintro en w5 ⟨Ah, ch, rfl, hr, b5⟩
                have b5' : Below wr.heap.size wr w5 := ⟨b5.os, b5.tape, b5.output, b5.size, b5.block⟩
                have cL := rL2.below b5' rL2.lt
                have qB5 := qB2.trans (b5'.mono qB2.size)
                have rO5 : w5.ownsRow w1.heap.size 5 1 (.slice Ab (bytesOf b).length cb) (bytesOf b).length (nums .u8 (bytesOf b)) := own_below rO b5' (Nat.le_refl _)
                obtain ⟨ad', e', p0, p1, p2, p3, p4⟩ := node_at (Kd.C_below HC.out qB5) j hjl
                obtain rfl : ad = ad' := Option.some.inj e'
                rw [← HNC.out] at p1
                rw [← HNM.out] at p2
                rw [← HNT.out] at p3
                refine ⟨_, rfl, ?_⟩
                refine hK.out _ _ ⟨p1, p2, p3, HLL.out _ cL⟩ (fun hHeld => ?_)
                clear hK K
                refine norm_ (a' := ?_) ?_ ?_
                rotate_left
                · show Act.put _ (some 127) _ = _
                  simp only [Act.put, List.setIfInBounds_toArray, List.set_cons_zero, List.set_cons_succ, i64_w, i32_w]
                  rfl
                refine pure_ (i := 20) (N := some 14) (v := ?_) (a' := ?_) #[true, true, true, true, true, true, true, true, true, true, true, true, true, true, true, true, true, true, true, true, true] rfl rfl q9_ (fun _ _ _ h => h) (Or.inl ⟨q43_, ?_⟩) ?_ ?_
                rotate_left
                · intro w'
                  go_simp
                  with_reducible rfl
                rotate_left
                · simp only [Act.put, List.setIfInBounds_toArray, List.set_cons_zero, List.set_cons_succ, i64_w, i32_w]
                  rfl
                refine done_ q9_ ?_
                go_wp2_with fail
                go_meet
                case rel => exact ⟨Ah, ch, rfl, hr, rO5, cL, qB5, Nat.le_trans zl b5'.size⟩
              case rest =>
                obtain ⟨Ah, ch, rfl, hr, rO5, cL, qB5, zl5⟩ := hcut
                clear rO rL2 qB2 zl m1 m2 m3 HHead
                go_upto_region 31 with (at_builtin; go_must (refine print_append_row (w0 := wc) w1.heap.size rfl (.tmp 128) (.tmp 129) 39 5 .u8 1 rfl Tryd.underlying39 infoU8 q19_ (.slice Ab (bytesOf b).length cb) (bytesOf b) (bytesOf H) Ah (bytesOf H).length ch rfl rfl rO5 hr (Below.refl _ _) zl5 hlen1 ?_); intro v1 w3 hO3 hb3 hg3 hat3)
                rw [← bytesOf_append] at hO3
                obtain ⟨A3, c3, rfl⟩ := own_slice hO3
                have cL3 : At w3 (w0.heap.size + 1) 3 (lenA xs 0) := (hg3.block _ cL.lt (own_ne rO5 cL q19_)).trans cL
                have zq := qB5.size
                have qB3 : Below w.heap.size w w3 := ⟨hg3.os.trans qB5.os, hg3.tape.trans qB5.tape, hg3.output.trans qB5.output, Nat.le_trans qB5.size hg3.size, fun q hq => (hg3.block q q2_ (fun e => by have := own_base rO5 q e.symm; omega)).trans (qB5.block q hq)⟩
                have zl3 : w1.heap.size ≤ w3.heap.size := Nat.le_trans zl5 hg3.size
                obtain ⟨ad', e', p0, p1, p2, p3, p4⟩ := node_at (Kd.C_below HC.out qB3) j hjl
                obtain rfl : ad = ad' := Option.some.inj e'
                rw [← HNB.out] at p4
                clear e' p0 p1 p2 p3 rO5 cL hb3 hg3 hat3 qB5 hr
                go_wp2_with (at_builtin; go_must (refine print_append_str (w0 := w3) w1.heap.size rfl (.tmp 131) (.tmp 136) 39 9 5 rfl Tryd.underlying39 Tryd.underlying9 infoU8 (.slice A3 (bytesOf (b ++ H)).length c3) (bytesOf (b ++ H)) nb rfl rfl hO3 (Below.refl _ _) zl3 hlen2 ?_); intro v2 w4 hO4 hb4 hg4)
                rw [← bytesOf_append, ← hnext.out] at hO4
                have cL4 : At w4 (w0.heap.size + 1) 3 (lenA xs 0) := (hg4.block _ cL3.lt (own_ne hO3 cL3 q19_)).trans cL3
                have zq3 := qB3.size
                have qB4 : Below w.heap.size w w4 := ⟨hg4.os.trans qB3.os, hg4.tape.trans qB3.tape, hg4.output.trans qB3.output, Nat.le_trans qB3.size hg4.size, fun q hq => (hg4.block q q2_ (fun e => by have := own_base hO3 q e.symm; omega)).trans (qB3.block q hq)⟩
                have zl4 : w1.heap.size ≤ w4.heap.size := Nat.le_trans zl3 hg4.size
                clear cL3 qB3 hO3 hb4 hg4 p4
                go_wp2
                go_roundw
                case rel => exact ⟨j + 1, q2_, by go_num, hO4, cL4, qB4, zl4⟩
                case measure => simp [intOf]; omega
            · obtain rfl : j = xs.length := by omega
              obtain ⟨b, hb'⟩ : ∃ b, b = catS short xs xs.length := ⟨_, rfl⟩
              rw [← hb'] at rO hcs
              rw [← hb']
              have HBB := Lib.hid hb'
              have hcv : (convert 39 9 (.slice Ab (bytesOf b).length cb)).run Tryd.prog wr = .ok (.string b) wr := by
                have h := own_string (P := Tryd.prog) (src := 39) (dst := 9) (e := 5) Tryd.underlying39 Tryd.underlying5 Tryd.underlying9 rO
                rwa [str_bytes] at h
              clear hb' rO rL2
              go_wp2_with fail
              go_ret3
              exact ⟨by rw [HWC.out, HBB.out]; rfl, qB2⟩
        | succ k =>
          have e0 : ((k + 1 : Nat) : Int) - 1 = (k : Int) := by omega
          rw [e0] at hi'
          subst hi'
          have hkl : k < xs.length := by omega
          obtain ⟨ad', e', m0, m1, m2, m3, m4⟩ := node_at (Kd.C_below HC.out qB) k hkl
          obtain rfl : ad = ad' := Option.some.inj e'
          have hdp := HS.out.depth k hkl
          obtain ⟨n, hn⟩ : ∃ n, n = nd xs k := ⟨_, rfl⟩
          rw [← hn] at m0 m1 m2 m3 m4 hdp
          obtain ⟨nd0, nc, nm, nt, nb⟩ := n
          simp only at m0 m1 m2 m3 m4 hdp
          obtain ⟨D, rfl⟩ : ∃ D : Nat, nd0 = (D : Int) := ⟨nd0.toNat, q2_⟩
          have k0 : (0 : Int) ≤ (k : Int) := by omega
          have k1 : (k : Int) < (xs.length : Int) := by omega
          have hbl : (ad.add (k * 5)).block < wr.heap.size := World.block_lt_of_cell? wr _ m0
          obtain ⟨S, hS⟩ : ∃ S, S = sums short xs (xs.length - (k + 1)) := ⟨_, rfl⟩
          rw [← hS] at rS
          have HN := Lib.hid hn
          have HSS := Lib.hid hS
          clear hn hS e' e0
          obtain ⟨len, hlen⟩ : ∃ len : Int, len = lenN nm (S (D + 1)) nb.size := ⟨_, rfl⟩
          have hnk := HN.out
          have hlS : Hid (len = lenS xs k (sums short xs (xs.length - (k + 1)))) := by
            show len = lenS xs k (sums short xs (xs.length - (k + 1)))
            rw [← HSS.out, hlen]
            unfold lenS lenN
            rw [← hnk]
            simp only [Int.toNat_natCast]
          have hla : Hid ((lenA xs (k + 1)).setIfInBounds k (.int .i64 len) = lenA xs k) := by
            show (lenA xs (k + 1)).setIfInBounds k (.int .i64 len) = lenA xs k
            rw [hlS.out, lenA_set]
          have HLEN := Lib.hid hlen
          have l0 := (rL.cell k).trans (lenA_get xs (k + 1) k hkl)
          have l1 := rL.free k
          have lL := rL.lt
          have lS := rS.lt
          clear hlen hnk
          go_upto_if 58 with fail
          have ezs : (wr.setCell ⟨w0.heap.size + 1, k, none⟩ (.int .i64 (nb.size : Int))).heap.size = wr.heap.size := by simp [World.setCell]
          have aN := At.new (wr.setCell ⟨w0.heap.size + 1, k, none⟩ (.int .i64 (nb.size : Int))) 43 #[.int .i64 (D : Int), .int .i64 nc, .bool nm, .int .i64 nt, .string nb]
          rw [ezs] at aN
          have aL := (rL.set k (.int .i64 (nb.size : Int))).alloc (.cells #[.int .i64 (D : Int), .int .i64 nc, .bool nm, .int .i64 nt, .string nb] 43)
          have aS := (rS.far (show w0.heap.size ≠ w0.heap.size + 1 by omega) (p := ⟨w0.heap.size + 1, k, none⟩) (.int .i64 (nb.size : Int))).alloc (.cells #[.int .i64 (D : Int), .int .i64 nc, .bool nm, .int .i64 nt, .string nb] 43)
          have aB : Below w.heap.size w ((wr.setCell ⟨w0.heap.size + 1, k, none⟩ (.int .i64 (nb.size : Int))).alloc (.cells #[.int .i64 (D : Int), .int .i64 nc, .bool nm, .int .i64 nt, .string nb] 43)) := (qB.setCell (by show w.heap.size ≤ w0.heap.size + 1; omega) _).alloc (by rw [ezs]; exact zw) _
          clear ezs l0 l1 rL rS qB m0 m1 m2 m3 m4 hbl
          generalize (wr.setCell ⟨w0.heap.size + 1, k, none⟩ (.int .i64 (nb.size : Int))).alloc (.cells #[.int .i64 (D : Int), .int .i64 nc, .bool nm, .int .i64 nt, .string nb] 43) = w1 at aN aL aS aB ⊢
          go_cut [9] from 59 to 70 (fun v9 wc => v9 = .int .i64 (k : Int) ∧ At wc wr.heap.size 43 #[.int .i64 (D : Int), .int .i64 nc, .bool nm, .int .i64 nt, .string nb] ∧ At wc w0.heap.size 69 (arr66 (sumN nm D S)) ∧ At wc (w0.heap.size + 1) 3 (lenA xs k) ∧ Below w.heap.size w wc)
          case first =>
            have hsz : k < (lenA xs (k + 1)).size := by rw [lenA_size]; exact hkl
            cases nm with
            | true =>
              have n0 := (aN.cell 0).trans rfl
              have n2 := (aN.cell 2).trans rfl
              have s1 : w1.cell? ⟨w0.heap.size, D + 1, none⟩ = some (.int .i64 (S (D + 1))) := (aS.cell (D + 1)).trans (arr66_get S (D + 1) q2_)
              have f1 := aS.free (D + 1)
              have l0 : w1.cell? ⟨w0.heap.size + 1, k, none⟩ = some (.int .i64 (nb.size : Int)) := by
                rw [aL.cell k, Array.getElem?_setIfInBounds_self_of_lt hsz]
              have l1 := aL.free k
              have D0 : (0 : Int) ≤ (D : Int) + 1 := by omega
              have D1 : (D : Int) + 1 < 66 := by omega
              have ewd : wrap64 ((D : Int) + 1) = (D : Int) + 1 := by unfold wrap64; omega
              go_wp2_with fail
              go_meet
              case rel =>
                refine ⟨rfl, ?_, ?_, ?_, ?_⟩
                · exact (aN.far q39_ _).far q39_ _
                · rw [← sumN_true]
                  exact (aS.far q28_ _).set (D + 1) _
                · have h := (aL.set k (.int .i64 (S (D + 1)))).far (show w0.heap.size + 1 ≠ w0.heap.size by omega) (p := ⟨w0.heap.size, D + 1, none⟩) (.int .i64 0)
                  rw [set_set] at h
                  rw [← hla.out, HLEN.out]
                  exact h
                · exact (aB.setCell (by show w.heap.size ≤ w0.heap.size + 1; omega) _).setCell (by show w.heap.size ≤ w0.heap.size; omega) _
            | false =>
              have n2 := (aN.cell 2).trans rfl
              go_wp2_with fail
              go_meet
              case rel =>
                refine ⟨rfl, aN, ?_, ?_, aB⟩
                · rw [sumN_false]; exact aS
                · rw [← hla.out, HLEN.out]
                  exact aL
          case rest =>
            obtain ⟨rfl, bN, bS, bL, bB⟩ := hcut
            clear aN aL aS aB
            have lk : wc.cell? ⟨w0.heap.size + 1, k, none⟩ = some (.int .i64 len) := by
              rw [bL.cell k, lenA_get xs k k hkl, if_pos (Nat.le_refl k), ← hlS.out]
            have hn3 : 0 ≤ len ∧ len ≤ 134217728 := by
              have := lenS_le short xs HS.out short_le k hkl
              rw [← hlS.out] at this
              omega
            have hnk := HN.out
            have hok : okN nc nt := by
              have := HS.out.name k hkl
              rw [← hnk] at this
              exact this
            have hHead : ∀ W : World, Calls Tryd.prog 39 #[.int .i64 nc, .bool nm, .int .i64 nt, .int .i64 len] W fun en w' => ∃ A c, en = .returned (.slice A (headB nc nm nt len (wideK len)).length c) ∧ ReadsInt w' .u8 A (headB nc nm nt len (wideK len)).length (headB nc nm nt len (wideK len)) ∧ Below W.heap.size W w' := fun W => refheader_any nc nt len nm W hok hn3.1 hn3.2
            have HHead := Lib.hid hHead
            have hlt : ¬ 4294967295 < len := by omega
            have hlb := decide_eq_false hlt
            clear hHead hok hnk
            go_upto_region 23 with fail
            go_cut [11] from 76 to 86 (fun v11 wx => ∃ Ah ch, v11 = .slice Ah (headB nc nm nt len (wideK len)).length ch ∧ At wx wr.heap.size 43 #[.int .i64 (D : Int), .int .i64 nc, .bool nm, .int .i64 nt, .string nb] ∧ At wx w0.heap.size 69 (arr66 (sumN nm D S)) ∧ At wx (w0.heap.size + 1) 3 (lenA xs k) ∧ Below w.heap.size w wx)
            case first =>
              refine start_ (n := 12) (S := fun V => V.cell? ⟨wr.heap.size, 1, none⟩ = some (.int .i64 nc) ∧ V.cell? ⟨wr.heap.size, 2, none⟩ = some (.bool nm) ∧ V.cell? ⟨wr.heap.size, 3, none⟩ = some (.int .i64 nt) ∧ V.cell? ⟨w0.heap.size + 1, k, none⟩ = some (.int .i64 len)) (ds := []) #[false, false, false, false, false, false, false, false, false, false, false, false] q9_ rfl rfl ⟨(bN.drew.cell 1).trans rfl, (bN.drew.cell 2).trans rfl, (bN.drew.cell 3).trans rfl, lk⟩ (fun hHeld => ?_)
              refine pure_ (i := 0) (N := some 76) (v := ?_) (a' := ?_) #[true, false, false, false, false, false, false, false, false, false, false, false] rfl rfl q9_ (fun _ _ _ h => h) (Or.inl ⟨q43_, ?_⟩) ?_ ?_
              rotate_left
              · intro w'
                go_simp
                with_reducible rfl
              rotate_left
              · simp only [Act.put, List.setIfInBounds_toArray, List.set_cons_zero, List.set_cons_succ, i64_w, i32_w]
                rfl
              refine pure_ (i := 2) (N := some 78) (v := ?_) (a' := ?_) #[true, false, true, false, false, false, false, false, false, false, false, false] rfl rfl q9_ (fun _ _ _ h => h) (Or.inl ⟨q43_, ?_⟩) ?_ ?_
              rotate_left
              · intro w'
                go_simp
                with_reducible rfl
              rotate_left
              · simp only [Act.put, List.setIfInBounds_toArray, List.set_cons_zero, List.set_cons_succ, i64_w, i32_w]
                rfl
              refine pure_ (i := 4) (N := some 80) (v := ?_) (a' := ?_) #[true, false, true, false, true, false, false, false, false, false, false, false] rfl rfl q9_ (fun _ _ _ h => h) (Or.inl ⟨q43_, ?_⟩) ?_ ?_
              rotate_left
              · intro w'
                go_simp
                with_reducible rfl
              rotate_left
              · simp only [Act.put, List.setIfInBounds_toArray, List.set_cons_zero, List.set_cons_succ, i64_w, i32_w]
                rfl
              refine pure_ (i := 6) (N := some 82) (v := ?_) (a' := ?_) #[true, false, true, false, true, false, true, false, false, false, false, false] rfl rfl q9_ (fun _ _ _ h => h) (Or.inl ⟨q43_, ?_⟩) ?_ ?_
              rotate_left
              · intro w'
                go_simp
                with_reducible rfl
              rotate_left
              · simp only [Act.put, List.setIfInBounds_toArray, List.set_cons_zero, List.set_cons_succ, i64_w, i32_w]
                rfl
              refine pure_ (i := 7) (N := some 83) (v := ?_) (a' := ?_) #[true, false, true, false, true, false, true, true, false, false, false, false] rfl rfl q9_ (fun _ _ _ h => h) (Or.inl ⟨q43_, ?_⟩) ?_ ?_
              rotate_left
              · intro w'
                go_simp
                with_reducible rfl
              rotate_left
              · simp only [Act.put, List.setIfInBounds_toArray, List.set_cons_zero, List.set_cons_succ, i64_w, i32_w]
                rfl
              refine pure_ (i := 8) (N := some 84) (v := ?_) (a' := ?_) #[true, false, true, false, true, false, true, true, true, false, false, false] rfl rfl q9_ (fun _ _ _ h => h) (Or.inl ⟨q43_, ?_⟩) ?_ ?_
              rotate_left
              · intro w'
                go_simp
                with_reducible rfl
              rotate_left
              · simp only [Act.put, List.setIfInBounds_toArray, List.set_cons_zero, List.set_cons_succ, i64_w, i32_w]
                rfl
              refine take_ (i := 1) (N := some 77) (v := ?_) (a' := ?_) #[true, true, true, false, true, false, true, true, true, false, false, false] rfl rfl q9_ (fun _ _ _ h => h) (Or.inl ⟨q43_, ?_⟩) hHeld ?_ ?_
              rotate_left
              · rintro w' ⟨s1, s2, s3, s4⟩
                go_simp
                with_reducible rfl
              rotate_left
              · simp only [Act.put, List.setIfInBounds_toArray, List.set_cons_zero, List.set_cons_succ, i64_w, i32_w]
                rfl
              refine take_ (i := 3) (N := some 79) (v := ?_) (a' := ?_) #[true, true, true, true, true, false, true, true, true, false, false, false] rfl rfl q9_ (fun _ _ _ h => h) (Or.inl ⟨q43_, ?_⟩) hHeld ?_ ?_
              rotate_left
              · rintro w' ⟨s1, s2, s3, s4⟩
                go_simp
                with_reducible rfl
              rotate_left
              · simp only [Act.put, List.setIfInBounds_toArray, List.set_cons_zero, List.set_cons_succ, i64_w, i32_w]
                rfl
              refine take_ (i := 5) (N := some 81) (v := ?_) (a' := ?_) #[true, true, true, true, true, true, true, true, true, false, false, false] rfl rfl q9_ (fun _ _ _ h => h) (Or.inl ⟨q43_, ?_⟩) hHeld ?_ ?_
              rotate_left
              · rintro w' ⟨s1, s2, s3, s4⟩
                go_simp
                with_reducible rfl
              rotate_left
              · simp only [Act.put, List.setIfInBounds_toArray, List.set_cons_zero, List.set_cons_succ, i64_w, i32_w]
                rfl
              refine take_ (i := 9) (N := some 85) (v := ?_) (a' := ?_) #[true, true, true, true, true, true, true, true, true, true, false, false] rfl rfl q9_ (fun _ _ _ h => h) (Or.inl ⟨q43_, ?_⟩) hHeld ?_ ?_
              rotate_left
              · rintro w' ⟨s1, s2, s3, s4⟩
                go_simp
                with_reducible rfl
              rotate_left
              · simp only [Act.put, List.setIfInBounds_toArray, List.set_cons_zero, List.set_cons_succ, i64_w, i32_w]
                rfl
              refine one_ (i := 10) (N := some 86) #[true, true, true, true, true, true, true, true, true, true, true, false] rfl rfl q9_ q19_ (fun K hK => ?_)
              refine goes_ Tryd.func39 q9_ rfl #[.int .i64 nc, .bool nm, .int .i64 nt, .int .i64 len] q43_ rfl rfl (by simp [Act.eval]) ?_
              refine (HHead.out _).mono ?_
              rintro en w5 ⟨Ah, ch, rfl, hr, b5⟩
              have b5' : Below wc.heap.size wc w5 := ⟨b5.os, b5.tape, b5.output, b5.size, b5.block⟩
              have cN := bN.below b5' bN.lt
              have cS := bS.below b5' bS.lt
              have cL := bL.below b5' bL.lt
              have lk5 : w5.cell? ⟨w0.heap.size + 1, k, none⟩ = some (.int .i64 len) := by
                rw [cL.cell k, lenA_get xs k k hkl, if_pos (Nat.le_refl k), ← hlS.out]
              refine ⟨_, rfl, ?_⟩
              refine hK.out _ _ ⟨(cN.cell 1).trans rfl, (cN.cell 2).trans rfl, (cN.cell 3).trans rfl, lk5⟩ (fun hHeld => ?_)
              clear hK K
              refine norm_ (a' := ?_) ?_ ?_
              rotate_left
              · show Act.put _ (some 86) _ = _
                simp only [Act.put, List.setIfInBounds_toArray, List.set_cons_zero, List.set_cons_succ, i64_w, i32_w]
                rfl
              refine pure_ (i := 11) (N := some 11) (v := ?_) (a' := ?_) #[true, true, true, true, true, true, true, true, true, true, true, true] rfl rfl q9_ (fun _ _ _ h => h) (Or.inl ⟨q43_, ?_⟩) ?_ ?_
              rotate_left
              · intro w'
                go_simp
                with_reducible rfl
              rotate_left
              · simp only [Act.put, List.setIfInBounds_toArray, List.set_cons_zero, List.set_cons_succ, i64_w, i32_w]
                rfl
              refine done_ q9_ ?_
              go_wp2_with fail
              go_meet
              case rel => exact ⟨Ah, ch, rfl, cN, cS, cL, bB.trans (b5'.mono bB.size)⟩
            case rest =>
              obtain ⟨Ah, ch, rfl, dN, dS, dL, dB⟩ := hcut
              clear bN bS bL bB lk
              obtain ⟨m, hm⟩ : ∃ m, m = (headB nc nm nt len (wideK len)).length := ⟨_, rfl⟩
              have hmz : (m : Int) = hsz (wideK len) := by
                have h := headS_size nc nm nt len (wideK len)
                unfold headS at h
                rw [strOfNums_size] at h
                rw [hm]
                exact h
              have hmr := hsz_range (wideK len) (short_le 0 len)
              rw [← hmz] at hmr
              rw [← hm]
              have hMZ := Lib.hid hmz
              obtain ⟨S2, hS2⟩ : ∃ S2 : Nat → Int, S2 = sumN nm D S := ⟨_, rfl⟩
              rw [← hS2] at dS
              have hSD : S2 D = S D := by
                rw [hS2]
                unfold sumN
                rw [if_neg q2_]
              have hn4 : 0 ≤ S D ∧ S D ≤ 134217728 := by
                have := sums_le short xs HS.out short_le (xs.length - (k + 1)) q2_ D q2_
                rw [← HSS.out] at this
                omega
              have HS2 := Lib.hid hS2
              have D0 : (0 : Int) ≤ (D : Int) := by omega
              have D1 : (D : Int) < 66 := by omega
              have eD : wc.cell? ⟨w0.heap.size, D, none⟩ = some (.int .i64 (S D)) := by
                rw [dS.cell D, arr66_get S2 D q2_, hSD]
              have lk : wc.cell? ⟨w0.heap.size + 1, k, none⟩ = some (.int .i64 len) := by
                rw [dL.cell k, lenA_get xs k k hkl, if_pos (Nat.le_refl k), ← hlS.out]
              have eF := dS.free D
              have HSD := Lib.hid hSD
              clear hm hmz hS2 hSD HHead
              go_upto_region 24 with fail
              refine start_ (n := 16) (S := fun V => V.cell? ⟨wr.heap.size, 0, none⟩ = some (.int .i64 (D : Int)) ∧ V.cell? ⟨w0.heap.size, D, none⟩ = some (.int .i64 (S D)) ∧ V.cell? ⟨w0.heap.size + 1, k, none⟩ = some (.int .i64 len)) (ds := [15]) #[false, false, false, false, false, false, false, false, false, false, false, false, false, false, false, false] q9_ rfl rfl ⟨(dN.drew.cell 0).trans rfl, eD, lk⟩ (fun hHeld => ?_)
              refine pure_ (i := 0) (N := some 87) (v := ?_) (a' := ?_) #[true, false, false, false, false, false, false, false, false, false, false, false, false, false, false, false] rfl rfl q9_ (fun _ _ _ h => h) (Or.inl ⟨q43_, ?_⟩) ?_ ?_
              rotate_left
              · intro w'
                go_simp
                with_reducible rfl
              rotate_left
              · simp only [Act.put, List.setIfInBounds_toArray, List.set_cons_zero, List.set_cons_succ, i64_w, i32_w]
                rfl
              refine pure_ (i := 2) (N := some 89) (v := ?_) (a' := ?_) #[true, false, true, false, false, false, false, false, false, false, false, false, false, false, false, false] rfl rfl q9_ (fun _ _ _ h => h) (Or.inl ⟨q43_, ?_⟩) ?_ ?_
              rotate_left
              · intro w'
                go_simp
                with_reducible rfl
              rotate_left
              · simp only [Act.put, List.setIfInBounds_toArray, List.set_cons_zero, List.set_cons_succ, i64_w, i32_w]
                rfl
              refine pure_ (i := 6) (N := some 93) (v := ?_) (a' := ?_) #[true, false, true, false, false, false, true, false, false, false, false, false, false, false, false, false] rfl rfl q9_ (fun _ _ _ h => h) (Or.inl ⟨q43_, ?_⟩) ?_ ?_
              rotate_left
              · intro w'
                go_simp
                with_reducible rfl
              rotate_left
              · simp only [Act.put, List.setIfInBounds_toArray, List.set_cons_zero, List.set_cons_succ, i64_w, i32_w]
                rfl
              refine pure_ (i := 7) (N := some 94) (v := ?_) (a' := ?_) #[true, false, true, false, false, false, true, true, false, false, false, false, false, false, false, false] rfl rfl q9_ (fun _ _ _ h => h) (Or.inl ⟨q43_, ?_⟩) ?_ ?_
              rotate_left
              · intro w'
                go_simp
                with_reducible rfl
              rotate_left
              · simp only [Act.put, List.setIfInBounds_toArray, List.set_cons_zero, List.set_cons_succ, i64_w, i32_w]
                rfl
              refine pure_ (i := 9) (N := some 96) (v := ?_) (a' := ?_) #[true, false, true, false, false, false, true, true, false, true, false, false, false, false, false, false] rfl rfl q9_ (fun _ _ _ h => h) (Or.inl ⟨q43_, ?_⟩) ?_ ?_
              rotate_left
              · intro w'
                go_simp
                with_reducible rfl
              rotate_left
              · simp only [Act.put, List.setIfInBounds_toArray, List.set_cons_zero, List.set_cons_succ, i64_w, i32_w]
                rfl
              refine pure_ (i := 10) (N := some 97) (v := ?_) (a' := ?_) #[true, false, true, false, false, false, true, true, false, true, true, false, false, false, false, false] rfl rfl q9_ (fun _ _ _ h => h) (Or.inl ⟨q43_, ?_⟩) ?_ ?_
              rotate_left
              · intro w'
                go_simp
                with_reducible rfl
              rotate_left
              · simp only [Act.put, List.setIfInBounds_toArray, List.set_cons_zero, List.set_cons_succ, i64_w, i32_w]
                rfl
              refine pure_ (i := 11) (N := some 98) (v := ?_) (a' := ?_) #[true, false, true, false, false, false, true, true, false, true, true, true, false, false, false, false] rfl rfl q9_ (fun _ _ _ h => h) (Or.inl ⟨q43_, ?_⟩) ?_ ?_
              rotate_left
              · intro w'
                go_simp
                with_reducible rfl
              rotate_left
              · simp only [Act.put, List.setIfInBounds_toArray, List.set_cons_zero, List.set_cons_succ, i64_w, i32_w]
                rfl
              refine take_ (i := 1) (N := some 88) (v := ?_) (a' := ?_) #[true, true, true, false, false, false, true, true, false, true, true, true, false, false, false, false] rfl rfl q9_ (fun _ _ _ h => h) (Or.inl ⟨q43_, ?_⟩) hHeld ?_ ?_
              rotate_left
              · rintro w' ⟨s0, s1, s2⟩
                go_simp
                with_reducible rfl
              rotate_left
              · simp only [Act.put, List.setIfInBounds_toArray, List.set_cons_zero, List.set_cons_succ, i64_w, i32_w]
                rfl
              refine take_ (i := 3) (N := some 90) (v := ?_) (a' := ?_) #[true, true, true, true, false, false, true, true, false, true, true, true, false, false, false, false] rfl rfl q9_ (fun _ _ _ h => h) (Or.inl ⟨q43_, ?_⟩) hHeld ?_ ?_
              rotate_left
              · rintro w' ⟨s0, s1, s2⟩
                go_simp
                with_reducible rfl
              rotate_left
              · simp only [Act.put, List.setIfInBounds_toArray, List.set_cons_zero, List.set_cons_succ, i64_w, i32_w]
                rfl
              refine pure_ (i := 4) (N := some 91) (v := ?_) (a' := ?_) #[true, true, true, true, true, false, true, true, false, true, true, true, false, false, false, false] rfl rfl q9_ (fun _ _ _ h => h) (Or.inl ⟨q43_, ?_⟩) ?_ ?_
              rotate_left
              · intro w'
                go_simp
                with_reducible rfl
              rotate_left
              · simp only [Act.put, List.setIfInBounds_toArray, List.set_cons_zero, List.set_cons_succ, i64_w, i32_w]
                rfl
              refine take_ (i := 5) (N := some 92) (v := ?_) (a' := ?_) #[true, true, true, true, true, true, true, true, false, true, true, true, false, false, false, false] rfl rfl q9_ (fun _ _ _ h => h) (Or.inl ⟨q43_, ?_⟩) hHeld ?_ ?_
              rotate_left
              · rintro w' ⟨s0, s1, s2⟩
                go_simp
                with_reducible rfl
              rotate_left
              · simp only [Act.put, List.setIfInBounds_toArray, List.set_cons_zero, List.set_cons_succ, i64_w, i32_w]
                rfl
              refine pure_ (i := 8) (N := some 95) (v := ?_) (a' := ?_) #[true, true, true, true, true, true, true, true, true, true, true, true, false, false, false, false] rfl rfl q9_ (fun _ _ _ h => h) (Or.inl ⟨q43_, ?_⟩) ?_ ?_
              rotate_left
              · intro w'
                go_simp
                with_reducible rfl
              rotate_left
              · simp only [Act.put, List.setIfInBounds_toArray, List.set_cons_zero, List.set_cons_succ, i64_w, i32_w]
                rfl
              refine take_ (i := 12) (N := some 99) (v := ?_) (a' := ?_) #[true, true, true, true, true, true, true, true, true, true, true, true, true, false, false, false] rfl rfl q9_ (fun _ _ _ h => h) (Or.inl ⟨q43_, ?_⟩) hHeld ?_ ?_
              rotate_left
              · rintro w' ⟨s0, s1, s2⟩
                go_simp
                with_reducible rfl
              rotate_left
              · simp only [Act.put, List.setIfInBounds_toArray, List.set_cons_zero, List.set_cons_succ, i64_w, i32_w]
                rfl
              refine pure_ (i := 13) (N := some 100) (v := ?_) (a' := ?_) #[true, true, true, true, true, true, true, true, true, true, true, true, true, true, false, false] rfl rfl q9_ (fun _ _ _ h => h) (Or.inl ⟨q43_, ?_⟩) ?_ ?_
              rotate_left
              · intro w'
                go_simp
                with_reducible rfl
              rotate_left
              · simp only [Act.put, List.setIfInBounds_toArray, List.set_cons_zero, List.set_cons_succ, i64_w, i32_w]
                rfl
              refine pure_ (i := 14) (N := some 101) (v := ?_) (a' := ?_) #[true, true, true, true, true, true, true, true, true, true, true, true, true, true, true, false] rfl rfl q9_ (fun _ _ _ h => h) (Or.inl ⟨q43_, ?_⟩) ?_ ?_
              rotate_left
              · intro w'
                go_simp
                with_reducible rfl
              rotate_left
              · simp only [Act.put, List.setIfInBounds_toArray, List.set_cons_zero, List.set_cons_succ, i64_w, i32_w]
                rfl
              refine last_ (i := 15) (N := none) #[true, true, true, true, true, true, true, true, true, true, true, true, true, true, true, true] rfl rfl q9_ q19_ (fun K hK => ?_)
              refine skip_ (w1 := ?_) q43_ rfl ?_ ?_
              rotate_left
              · go_simp
                rfl
              refine hK.out _ _ ?_
              clear hK K
              refine done_ q9_ ?_
              have ew : wrap64 (wrap64 (S D + m) + len) = S D + m + len := by rw [wrI (S D + m) q2_ q2_, wrI _ q2_ q2_]
              rw [ew]
              clear ew
              have hmm : xs.length - k = (xs.length - (k + 1)) + 1 := by omega
              have hmm2 : xs.length - (xs.length - (k + 1) + 1) = k := by omega
              have hnk := HN.out
              have hl2 := hlS.out
              have gA : At (wc.setCell ⟨w0.heap.size, D, none⟩ (.int .i64 (S D + m + len))).drew w0.heap.size 69 (arr66 (sums short xs (xs.length - k))) := by
                have h := (dS.set D (.int .i64 (S D + m + len))).drew
                rw [arr66_set] at h
                have e : (fun x => if x = D then S D + m + len else S2 x) = sums short xs (xs.length - k) := by
                  rw [hmm]
                  show _ = stepS short xs (xs.length - (xs.length - (k + 1) + 1)) (sums short xs (xs.length - (k + 1)))
                  rw [hmm2]
                  funext x
                  unfold stepS
                  rw [← hl2, ← HSS.out, ← hnk, hMZ.out]
                  simp only [Int.toNat_natCast]
                  by_cases hx : x = D
                  · rw [if_pos hx, if_pos hx, hx]
                    rfl
                  · rw [if_neg hx, if_neg hx, HS2.out]
                    rfl
                rw [e] at h
                exact h
              have gL : At (wc.setCell ⟨w0.heap.size, D, none⟩ (.int .i64 (S D + m + len))).drew (w0.heap.size + 1) 3 (lenA xs k) := (dL.far (show w0.heap.size + 1 ≠ w0.heap.size by omega) (p := ⟨w0.heap.size, D, none⟩) (.int .i64 (S D + m + len))).drew
              have gB : Below w.heap.size w (wc.setCell ⟨w0.heap.size, D, none⟩ (.int .i64 (S D + m + len))).drew := below_draws (dB.setCell (by show w.heap.size ≤ w0.heap.size; omega) _) 1
              clear dN dS dL dB eD lk eF HN HSS HS2 HSD HLEN hlS hla hnk hl2 hmm hmm2 hMZ
              generalize (wc.setCell ⟨w0.heap.size, D, none⟩ (.int .i64 (S D + m + len))).drew = w7 at gA gL gB ⊢
              go_wp2
              go_roundw
              case rel => exact ⟨k, q2_, by go_num, gL, gA, gB⟩
              case measure => simp [intOf]
theorem rwrite_none (A : Option Addr) (c : Nat) (w : World) : Calls Tryd.prog 20 #[.slice A 0 c] w fun en w' => en = .returned (.tuple #[.string (writeS []).1, .int .i64 (writeS []).2.1, .int .i64 (writeS []).2.2]) ∧ Below w.heap.size w w' := by
  go_enter Tryd.func20, Tryd.ntmps20
  go_wp2
  go_ret3
  exact ⟨rfl, Below.refl _ _⟩
theorem rwrite_any (A : Option Addr) (c : Nat) (xs : List NodeT) (w : World) (hR : Kd.C kNode w A xs.length xs) (hc : xs.length ≤ c) (hL : xs.length ≤ 100000000 ∧ wt xs 0 xs.length ≤ 134217728) :
    Calls Tryd.prog 20 #[.slice A xs.length c] w fun en w' => en = .returned (.tuple #[.string (writeS xs).1, .int .i64 (writeS xs).2.1, .int .i64 (writeS xs).2.2]) ∧ Below w.heap.size w w' := by
  by_cases hx : xs.length = 0
  · obtain rfl := List.eq_nil_of_length_eq_zero hx
    exact rwrite_none A c w
  · exact rwrite_some A c xs w hR hc q2_ hL
end Go.Proofs.YtogjljpncdmlkaaDoor.W
end
