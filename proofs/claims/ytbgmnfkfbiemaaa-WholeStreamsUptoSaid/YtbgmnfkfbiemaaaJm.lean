/- Texts of this session in one: Wk, We, Wm -/
import Derived.Test.YtbgmnfkfbiemaaaMj
import Derived.Test.YtbgmnfkfbiemaaaJt
import Derived.Test.YtbgmnfkfbiemaaaWLast
/-! ## Walks of ber.follows, (*writer).element and ber.Write: a tree's bytes in the shortest form, or the error and the number of the first node at fault. -/
namespace Go.Proofs.Ytbgmnfkfbiemaaa.W
open Go.RowKit Go.Proofs.YtbgmnfkfbiemaaaW.PrintWords Go.Proofs.YtbgmnfkfbiemaaaW.PrintLast
set_option linter.unusedVariables false
set_option linter.unusedSimpArgs false

theorem foll_none (n : NodeT) : follB none n = (namedB n.2.1 n.2.2.2.1 && !(n.2.2.1 && decide (n.2.2.2.2.size ≠ 0)) && decide (n.1 = 1)) := rfl
theorem foll_some (n : NodeT) (d : Int) (m : Bool) : follB (some (d, m)) n = (namedB n.2.1 n.2.2.2.1 && !(n.2.2.1 && decide (n.2.2.2.2.size ≠ 0)) && (decide (2 ≤ n.1) && decide (n.1 ≤ if m = true then d + 1 else d))) := rfl
theorem toList_emp (b : ByteArray) : (b.toList.isEmpty = true ↔ b.size = 0) ∧ (b.toList = [] ↔ b.size = 0) := by
  have h : b.toList.length = b.size := by rw [ByteArray.toList_eq, Array.length_toList]; rfl
  refine ⟨by rw [List.isEmpty_iff, ← List.length_eq_zero_iff, h], by rw [← List.length_eq_zero_iff, h]⟩

set_option maxRecDepth 100000 in
set_option maxHeartbeats 1000000 in
/-- Class, tag or body at fault. -/
theorem follows_bad (v : Value) (b : Option (Int × Bool)) (n : NodeT) (w : World) (h : (namedB n.2.1 n.2.2.2.1 && !(n.2.2.1 && decide (n.2.2.2.2.size ≠ 0))) = false) :
    Calls Try.prog 23 #[v, .agg #[.int .i64 n.1, .int .i64 n.2.1, .bool n.2.2.1, .int .i64 n.2.2.2.1, .string n.2.2.2.2]] w fun en w' => en = .returned (.bool (follB b n)) ∧ Below w.heap.size w w' := by
  obtain ⟨d, c, m, t, s⟩ := n
  have hf : follB b (d, c, m, t, s) = false := by unfold follB; rw [h]; rfl
  rw [hf]
  simp only at h ⊢
  cases hn : namedB c t with
  | false =>
    have HN := Lib.hid hn
    clear hn h hf
    go_enter Try.func23, Try.ntmps23
    go_wp2_with fail
    refine (named_any c t _).mono ?_
    rintro en w1 ⟨rfl, nd, rfl⟩
    rw [HN.out]
    go_wp2
    go_ret
    exact ⟨rfl, below_draws ((Below.refl _ _).alloc (Nat.le_refl _) _) _⟩
  | true =>
    rw [hn, Bool.true_and, Bool.not_eq_false', Bool.and_eq_true, decide_eq_true_eq] at h
    obtain ⟨hm, hs⟩ := h
    subst hm
    have he : s.toList ≠ [] := fun h => hs ((toList_emp s).2.1 h)
    have he2 : s.toList.isEmpty = false := by rw [Bool.eq_false_iff]; exact fun h => hs ((toList_emp s).1.1 h)
    have HN := Lib.hid hn
    clear hn hf hs
    go_enter Try.func23, Try.ntmps23
    go_wp2_with fail
    refine (named_any c t _).mono ?_
    rintro en w1 ⟨rfl, nd, rfl⟩
    rw [HN.out]
    go_wp2
    go_ret
    exact ⟨rfl, below_draws ((Below.refl _ _).alloc (Nat.le_refl _) _) _⟩

set_option maxRecDepth 100000 in
set_option maxHeartbeats 2000000 in
theorem follows_first (n : NodeT) (w : World) :
    Calls Try.prog 23 #[.pointer none, .agg #[.int .i64 n.1, .int .i64 n.2.1, .bool n.2.2.1, .int .i64 n.2.2.2.1, .string n.2.2.2.2]] w fun en w' => en = .returned (.bool (follB none n)) ∧ Below w.heap.size w w' := by
  cases h : (namedB n.2.1 n.2.2.2.1 && !(n.2.2.1 && decide (n.2.2.2.2.size ≠ 0))) with
  | false => exact follows_bad _ none n w h
  | true =>
    have hf : follB none n = (decide (n.1 = 1)) := by rw [foll_none, h, Bool.true_and]
    rw [hf]
    obtain ⟨d, c, m, t, s⟩ := n
    simp only [Bool.and_eq_true, Bool.not_eq_true', Bool.and_eq_false_iff, decide_eq_false_iff_not] at h ⊢
    obtain ⟨hn, hms⟩ := h
    clear hf
    have HN := Lib.hid hn
    clear hn
    cases m with
    | false =>
      clear hms
      by_cases hd : d = 1
      · subst hd
        go_enter Try.func23, Try.ntmps23
        go_wp2_with fail
        refine (named_any c t _).mono ?_
        rintro en w1 ⟨rfl, nd, rfl⟩
        rw [HN.out]
        go_wp2
        go_ret
        exact ⟨rfl, below_draws ((Below.refl _ _).alloc (Nat.le_refl _) _) _⟩
      · have e : decide (d = 1) = false := decide_eq_false hd
        have e2 : (d == 1) = false := beq_eq_false_iff_ne.2 hd
        rw [e]
        go_enter Try.func23, Try.ntmps23
        go_wp2_with fail
        refine (named_any c t _).mono ?_
        rintro en w1 ⟨rfl, nd, rfl⟩
        rw [HN.out]
        go_wp2
        go_ret
        exact ⟨rfl, below_draws ((Below.refl _ _).alloc (Nat.le_refl _) _) _⟩
    | true =>
      have hs : s.size = 0 := by
        rcases hms with h | h
        · cases h
        · omega
      have he : s.toList = [] := (toList_emp s).2.2 hs
      have he2 : s.toList.isEmpty = true := (toList_emp s).1.2 hs
      clear hms hs
      by_cases hd : d = 1
      · subst hd
        go_enter Try.func23, Try.ntmps23
        go_wp2_with fail
        refine (named_any c t _).mono ?_
        rintro en w1 ⟨rfl, nd, rfl⟩
        rw [HN.out]
        go_wp2
        go_ret
        exact ⟨rfl, below_draws ((Below.refl _ _).alloc (Nat.le_refl _) _) _⟩
      · have e : decide (d = 1) = false := decide_eq_false hd
        have e2 : (d == 1) = false := beq_eq_false_iff_ne.2 hd
        rw [e]
        go_enter Try.func23, Try.ntmps23
        go_wp2_with fail
        refine (named_any c t _).mono ?_
        rintro en w1 ⟨rfl, nd, rfl⟩
        rw [HN.out]
        go_wp2
        go_ret
        exact ⟨rfl, below_draws ((Below.refl _ _).alloc (Nat.le_refl _) _) _⟩

set_option maxRecDepth 100000 in
set_option maxHeartbeats 2000000 in
theorem follows_next (ad : Addr) (bd : Int) (bm : Bool) (n : NodeT) (w : World) (hb : 0 ≤ bd) (hb2 : bd ≤ 64) (c0 : w.cell? ad = some (.int .i64 bd)) (c2 : w.cell? ⟨ad.block, ad.off + 2, none⟩ = some (.bool bm)) (hlt : ad.block < w.heap.size) (hsp : ad.spot = none) :
    Calls Try.prog 23 #[.pointer (some ad), .agg #[.int .i64 n.1, .int .i64 n.2.1, .bool n.2.2.1, .int .i64 n.2.2.2.1, .string n.2.2.2.2]] w fun en w' => en = .returned (.bool (follB (some (bd, bm)) n)) ∧ Below w.heap.size w w' := by
  obtain ⟨ab, ao, asp⟩ := ad
  simp only at hsp hlt c2
  subst hsp
  cases h : (namedB n.2.1 n.2.2.2.1 && !(n.2.2.1 && decide (n.2.2.2.2.size ≠ 0))) with
  | false => exact follows_bad _ _ n w h
  | true =>
    have hf : follB (some (bd, bm)) n = (decide (2 ≤ n.1) && decide (n.1 ≤ if bm = true then bd + 1 else bd)) := by rw [foll_some, h, Bool.true_and]
    rw [hf]
    obtain ⟨d, c, m, t, s⟩ := n
    simp only [Bool.and_eq_true, Bool.not_eq_true', Bool.and_eq_false_iff, decide_eq_false_iff_not] at h ⊢
    obtain ⟨hn, hms⟩ := h
    clear hf
    have HN := Lib.hid hn
    clear hn
    obtain ⟨most, hmost⟩ : ∃ x, x = if bm = true then bd + 1 else bd := ⟨_, rfl⟩
    rw [← hmost]
    have HM := Lib.hid hmost
    have hmr : 0 ≤ most ∧ most ≤ 65 := by rw [hmost]; split <;> omega
    clear hmost
    have hcases : m = false ∨ (m = true ∧ s.toList = [] ∧ s.toList.isEmpty = true) := by
      cases m with
      | false => exact .inl rfl
      | true =>
        have hs : s.size = 0 := by
          rcases hms with h | h
          · cases h
          · omega
        exact .inr ⟨rfl, (toList_emp s).2.2 hs, (toList_emp s).1.2 hs⟩
    clear hms
    by_cases hd : 2 ≤ d
    · have q1 : decide (2 ≤ d) = true := decide_eq_true hd
      rw [q1, Bool.true_and]
      rcases hcases with rfl | ⟨rfl, he, he2⟩
      all_goals
        cases bm
        all_goals
          have hm2 := HM.out
          simp only [if_true, Bool.false_eq_true, if_false] at hm2
          subst hm2
          go_enter Try.func23, Try.ntmps23
          go_wp2_with fail
          refine (named_any c t _).mono ?_
          rintro en w1 ⟨rfl, nd, rfl⟩
          rw [HN.out]
          go_wp2
          all_goals
            go_ret
            first
              | exact ⟨rfl, below_draws ((Below.refl _ _).alloc (Nat.le_refl _) _) _⟩
              | exact ⟨by simp_all, below_draws ((Below.refl _ _).alloc (Nat.le_refl _) _) _⟩
    · have q1 : decide (2 ≤ d) = false := decide_eq_false hd
      rw [q1, Bool.false_and]
      rcases hcases with rfl | ⟨rfl, he, he2⟩
      all_goals
        cases bm
        all_goals
          go_enter Try.func23, Try.ntmps23
          go_wp2_with fail
          refine (named_any c t _).mono ?_
          rintro en w1 ⟨rfl, nd, rfl⟩
          rw [HN.out]
          go_wp2
          all_goals
            go_ret
            first
              | exact ⟨rfl, below_draws ((Below.refl _ _).alloc (Nat.le_refl _) _) _⟩
              | exact ⟨by simp_all, below_draws ((Below.refl _ _).alloc (Nat.le_refl _) _) _⟩
end Go.Proofs.Ytbgmnfkfbiemaaa.W

/-! ## Walk of (*writer).element: the bytes of the element at the writer's place; the place goes on behind it. -/
namespace Go.Proofs.Ytbgmnfkfbiemaaa.W
open Go.RowKit Go.Proofs.YtbgmnfkfbiemaaaW.PrintWords Go.Proofs.YtbgmnfkfbiemaaaW.PrintLast
set_option linter.unusedVariables false
set_option linter.unusedSimpArgs false

theorem node_at {w : World} {A : Option Addr} {n : Nat} {xs : List NodeT} (h : Kd.C kNode w A n xs) (i : Nat) (hi : i < n) : ∃ ad, A = some ad ∧ w.cell? (ad.add (i * 5)) = some (.int .i64 (nd xs i).1) ∧
    w.cell? ⟨(ad.add (i * 5)).block, (ad.add (i * 5)).off + 1, none⟩ = some (.int .i64 (nd xs i).2.1) ∧ w.cell? ⟨(ad.add (i * 5)).block, (ad.add (i * 5)).off + 2, none⟩ = some (.bool (nd xs i).2.2.1) ∧
    w.cell? ⟨(ad.add (i * 5)).block, (ad.add (i * 5)).off + 3, none⟩ = some (.int .i64 (nd xs i).2.2.2.1) ∧ w.cell? ⟨(ad.add (i * 5)).block, (ad.add (i * 5)).off + 4, none⟩ = some (.string (nd xs i).2.2.2.2) := by
  obtain ⟨ad, c, e, _, hK, hc0⟩ := Kd.C_get h zN (i : Int) (by omega) (by omega)
  have hc : ∀ j u, c[j]? = some u → w.cell? (ad.add (i * 5 + j)) = some u := hc0
  obtain ⟨_, _, rfl, rfl, ⟨_, _, rfl, rfl, ⟨_, _, rfl, rfl, ⟨_, _, rfl, rfl, rfl⟩⟩⟩⟩ := hK
  refine ⟨ad, e, hc 0 _ rfl, by rw [← add_field _ _ 1 (by omega)]; exact hc 1 _ rfl, by rw [← add_field _ _ 2 (by omega)]; exact hc 2 _ rfl, by rw [← add_field _ _ 3 (by omega)]; exact hc 3 _ rfl, by rw [← add_field _ _ 4 (by omega)]; exact hc 4 _ rfl⟩

theorem infoU8 : (Try.prog.info? 5).map (fun i => (i.zero, i.size, i.bytes)) = some (some (.int .u8 0), 1, 1) := by kernel_rfl
theorem str_bytes (b : ByteArray) : strOfNums (bytesOf b) = b := by
  apply ByteArray.ext
  show ((bytesOf b).map fun n => UInt8.ofNat n.toNat).toArray = b.data
  unfold bytesOf
  rw [List.map_map]
  have : ((fun n : Int => UInt8.ofNat n.toNat) ∘ fun c : UInt8 => (c.toNat : Int)) = id := by
    funext c
    simp [Function.comp]
  rw [this, List.map_id]
/-- The list that is written: in an elder world w0, and fit to be written. -/
structure WrIn (w0 : World) (A : Option Addr) (c : Nat) (xs : List NodeT) : Prop where
  reads : Kd.C kNode w0 A xs.length xs
  cap : xs.length ≤ c
  few : xs.length ≤ 100000000
  light : wt xs 0 xs.length ≤ 134217728
  made : ∀ i, (nd xs i).2.2.1 = true → (nd xs i).2.2.2.2.size = 0
def WrEnd (xs : List NodeT) (m i g : Nat) (A : Option Addr) (c : Nat) (w : World) (en : Ending) (w' : World) : Prop :=
  en = .returned (.string (wrE xs m i).1) ∧ At w' g 73 #[.slice A xs.length c, .int .i64 ((wrE xs m i).2 : Nat)] ∧ w.grownBy w' (some g)
def Writes (w0 : World) (A : Option Addr) (c : Nat) (xs : List NodeT) (m : Nat) : Prop :=
  ∀ (i g : Nat) (w : World), i < xs.length → 2 * (xs.length - i) + 1 ≤ m → Below w0.heap.size w0 w → w0.heap.size ≤ g → At w g 73 #[.slice A xs.length c, .int .i64 (i : Nat)] →
    Calls Try.prog 25 #[.pointer (some ⟨g, 0, none⟩)] w (WrEnd xs m i g A c w)
theorem grown_trans {a b c : World} {r : Option Nat} (h : a.grownBy b r) (k : b.grownBy c r) : a.grownBy c r :=
  ⟨k.os.trans h.os, k.tape.trans h.tape, k.output.trans h.output, Nat.le_trans h.size k.size, fun i hi hn => (k.block i (Nat.lt_of_lt_of_le hi h.size) hn).trans (h.block i hi hn)⟩
theorem grown_drew {a b : World} {r : Option Nat} (h : a.grownBy b r) : a.grownBy b.drew r := ⟨h.os, h.tape, h.output, h.size, h.block⟩
theorem below_grow {B : Nat} {a b c : World} {g : Nat} (h : Below B a b) (k : b.grownBy c (some g)) (hB : B ≤ b.heap.size) (hg : B ≤ g) : Below B a c := below_kept h k hB hg

set_option maxRecDepth 100000 in
set_option maxHeartbeats 2000000 in
theorem element_write (w0 : World) (A : Option Addr) (c : Nat) (xs : List NodeT) (hI : WrIn w0 A c xs) (m : Nat) (ih : ∀ k, k < m + 1 → Writes w0 A c xs k) (i g : Nat) (w : World) (hi : i < xs.length) (hm : 2 * (xs.length - i) + 1 ≤ m + 1) (hB : Below w0.heap.size w0 w) (hg : w0.heap.size ≤ g)
    (hA : At w g 73 #[.slice A xs.length c, .int .i64 (i : Nat)]) : Calls Try.prog 25 #[.pointer (some ⟨g, 0, none⟩)] w (WrEnd xs (m + 1) i g A c w) := by
  obtain ⟨hR, hcap, hfew, hlight, hmade⟩ := hI
  obtain ⟨n, hn⟩ : ∃ n, n = nd xs i := ⟨_, rfl⟩
  obtain ⟨ad, rfl, n0, n1, n2, n3, n4⟩ := node_at (Kd.C_below hR hB) i hi
  rw [← hn] at n0 n1 n2 n3 n4
  have HN := Lib.hid hn
  have HM := Lib.hid hmade
  have IH := Lib.hid ih
  have HR := Lib.hid hR
  have hbl : (ad.add (i * 5)).block < w.heap.size := World.block_lt_of_cell? w _ n0
  have i0 : (0 : Int) ≤ (i : Int) := by omega
  have i1 : (i : Int) < (xs.length : Int) := by omega
  have hlt := hA.lt
  clear hn hmade ih hR
  go_enter Try.func25, Try.ntmps25
  go_wp2_with fail
  refine start_ (n := 12) (S := fun V => V.cell? ⟨g, 0, none⟩ = some (.slice (some ad) xs.length c) ∧ V.cell? ⟨g, 1, none⟩ = some (.int .i64 (i : Nat)) ∧ V.cell? (ad.add (i * 5)) = some (.int .i64 n.1) ∧ V.cell? ⟨(ad.add (i * 5)).block, (ad.add (i * 5)).off + 1, none⟩ = some (.int .i64 n.2.1) ∧ V.cell? ⟨(ad.add (i * 5)).block, (ad.add (i * 5)).off + 2, none⟩ = some (.bool n.2.2.1) ∧ V.cell? ⟨(ad.add (i * 5)).block, (ad.add (i * 5)).off + 3, none⟩ = some (.int .i64 n.2.2.2.1) ∧ V.cell? ⟨(ad.add (i * 5)).block, (ad.add (i * 5)).off + 4, none⟩ = some (.string n.2.2.2.2)) (ds := [11]) #[false, false, false, false, false, false, false, false, false, false, false, false] (by kernel_rfl) rfl rfl ⟨(hA.drew.cell 0).trans rfl, (hA.drew.cell 1).trans rfl, n0, n1, n2, n3, n4⟩ (fun hHeld => ?_)
  refine pure_ (i := 0) (N := some 5) (v := ?_) (a' := ?_) #[true, false, false, false, false, false, false, false, false, false, false, false] rfl rfl (by kernel_rfl) (fun _ _ _ h => h) (Or.inl ⟨by rfl, ?_⟩) ?_ ?_
  rotate_left
  · intro w'
    go_simp
    with_reducible rfl
  rotate_left
  · simp only [Act.put, List.setIfInBounds_toArray, List.set_cons_zero, List.set_cons_succ, i64_w, i32_w]
    rfl
  refine pure_ (i := 1) (N := some 6) (v := ?_) (a' := ?_) #[true, true, false, false, false, false, false, false, false, false, false, false] rfl rfl (by kernel_rfl) (fun _ _ _ h => h) (Or.inl ⟨by rfl, ?_⟩) ?_ ?_
  rotate_left
  · intro w'
    go_simp
    with_reducible rfl
  rotate_left
  · simp only [Act.put, List.setIfInBounds_toArray, List.set_cons_zero, List.set_cons_succ, i64_w, i32_w]
    rfl
  refine pure_ (i := 2) (N := some 7) (v := ?_) (a' := ?_) #[true, true, true, false, false, false, false, false, false, false, false, false] rfl rfl (by kernel_rfl) (fun _ _ _ h => h) (Or.inl ⟨by rfl, ?_⟩) ?_ ?_
  rotate_left
  · intro w'
    go_simp
    with_reducible rfl
  rotate_left
  · simp only [Act.put, List.setIfInBounds_toArray, List.set_cons_zero, List.set_cons_succ, i64_w, i32_w]
    rfl
  refine pure_ (i := 4) (N := some 9) (v := ?_) (a' := ?_) #[true, true, true, false, true, false, false, false, false, false, false, false] rfl rfl (by kernel_rfl) (fun _ _ _ h => h) (Or.inl ⟨by rfl, ?_⟩) ?_ ?_
  rotate_left
  · intro w'
    go_simp
    with_reducible rfl
  rotate_left
  · simp only [Act.put, List.setIfInBounds_toArray, List.set_cons_zero, List.set_cons_succ, i64_w, i32_w]
    rfl
  refine pure_ (i := 5) (N := some 10) (v := ?_) (a' := ?_) #[true, true, true, false, true, true, false, false, false, false, false, false] rfl rfl (by kernel_rfl) (fun _ _ _ h => h) (Or.inl ⟨by rfl, ?_⟩) ?_ ?_
  rotate_left
  · intro w'
    go_simp
    with_reducible rfl
  rotate_left
  · simp only [Act.put, List.setIfInBounds_toArray, List.set_cons_zero, List.set_cons_succ, i64_w, i32_w]
    rfl
  refine pure_ (i := 6) (N := some 11) (v := ?_) (a' := ?_) #[true, true, true, false, true, true, true, false, false, false, false, false] rfl rfl (by kernel_rfl) (fun _ _ _ h => h) (Or.inl ⟨by rfl, ?_⟩) ?_ ?_
  rotate_left
  · intro w'
    go_simp
    with_reducible rfl
  rotate_left
  · simp only [Act.put, List.setIfInBounds_toArray, List.set_cons_zero, List.set_cons_succ, i64_w, i32_w]
    rfl
  refine take_ (i := 3) (N := some 8) (v := ?_) (a' := ?_) #[true, true, true, true, true, true, true, false, false, false, false, false] rfl rfl (by kernel_rfl) (fun _ _ _ h => h) (Or.inl ⟨by rfl, ?_⟩) hHeld ?_ ?_
  rotate_left
  · rintro w' ⟨s0, s1, s2, s3, s4, s5, s6⟩
    go_simp
    with_reducible rfl
  rotate_left
  · simp only [Act.put, List.setIfInBounds_toArray, List.set_cons_zero, List.set_cons_succ, i64_w, i32_w]
    rfl
  refine take_ (i := 7) (N := some 12) (v := ?_) (a' := ?_) #[true, true, true, true, true, true, true, true, false, false, false, false] rfl rfl (by kernel_rfl) (fun _ _ _ h => h) (Or.inl ⟨by rfl, ?_⟩) hHeld ?_ ?_
  rotate_left
  · rintro w' ⟨s0, s1, s2, s3, s4, s5, s6⟩
    go_simp
    with_reducible rfl
  rotate_left
  · simp only [Act.put, List.setIfInBounds_toArray, List.set_cons_zero, List.set_cons_succ, i64_w, i32_w]
    rfl
  refine pure_ (i := 8) (N := some 13) (v := ?_) (a' := ?_) #[true, true, true, true, true, true, true, true, true, false, false, false] rfl rfl (by kernel_rfl) (fun _ _ _ h => h) (Or.inl ⟨by rfl, ?_⟩) ?_ ?_
  rotate_left
  · intro w'
    go_simp
    with_reducible rfl
  rotate_left
  · simp only [Act.put, List.setIfInBounds_toArray, List.set_cons_zero, List.set_cons_succ, i64_w, i32_w]
    rfl
  refine take_ (i := 9) (N := some 14) (v := ?_) (a' := ?_) #[true, true, true, true, true, true, true, true, true, true, false, false] rfl rfl (by kernel_rfl) (fun _ _ _ h => h) (Or.inl ⟨by rfl, ?_⟩) hHeld ?_ ?_
  rotate_left
  · rintro w' ⟨s0, s1, s2, s3, s4, s5, s6⟩
    go_simp
    with_reducible rfl
  rotate_left
  · simp only [Act.put, List.setIfInBounds_toArray, List.set_cons_zero, List.set_cons_succ, i64_w, i32_w]
    rfl
  refine one_ (i := 10) (N := some 3) #[true, true, true, true, true, true, true, true, true, true, true, false] rfl rfl (by kernel_rfl) (by decide) (fun K hK => ?_)
  refine value_ (w1 := ?_) (v := ?_) (by rfl) rfl ?_ ?_
  rotate_left 2
  · go_simp
    constructor
    · rfl
    · rfl
  refine hK.out _ _ ⟨((hA.drew.alloc _).cell 0).trans rfl, ((hA.drew.alloc _).cell 1).trans rfl, (World.cell?_alloc_lt w.drew _ (ad.add (i * 5)) hbl).trans n0, (World.cell?_alloc_lt w.drew _ ⟨(ad.add (i * 5)).block, (ad.add (i * 5)).off + 1, none⟩ hbl).trans n1, (World.cell?_alloc_lt w.drew _ ⟨(ad.add (i * 5)).block, (ad.add (i * 5)).off + 2, none⟩ hbl).trans n2, (World.cell?_alloc_lt w.drew _ ⟨(ad.add (i * 5)).block, (ad.add (i * 5)).off + 3, none⟩ hbl).trans n3, (World.cell?_alloc_lt w.drew _ ⟨(ad.add (i * 5)).block, (ad.add (i * 5)).off + 4, none⟩ hbl).trans n4⟩ (fun hHeld => ?_)
  clear hK K
  refine norm_ (a' := ?_) ?_ ?_
  rotate_left
  · show Act.put _ (some 3) _ = _
    simp only [Act.put, List.setIfInBounds_toArray, List.set_cons_zero, List.set_cons_succ, i64_w, i32_w]
    rfl
  refine last_ (i := 11) (N := none) #[true, true, true, true, true, true, true, true, true, true, true, true] rfl rfl (by kernel_rfl) (by decide) (fun K hK => ?_)
  refine skip_ (w1 := ?_) (by rfl) rfl ?_ ?_
  rotate_left
  · go_simp
    rfl
  refine hK.out _ _ ?_
  clear hK K
  refine done_ (by kernel_rfl) ?_
  clear hHeld n0 n1 n2 n3 n4
  have c1 := (hA.cell 1).trans rfl
  have f1 := hA.free 1
  have hwE := HN.out
  obtain ⟨nd0, nc, nm, nt, nb⟩ := n
  have hbody : nb.size ≤ 134217728 := by
    have h1 := wt_one xs hi
    rw [← hwE] at h1
    have h2 := wt_split xs (i := 0) (j := i) (k := i + 1) (by omega) (by omega)
    have h3 := wt_all xs (i + 1)
    simp only at h1
    omega
  have hA1 : At ((w.setCell ⟨g, 1, none⟩ (.int .i64 ((i + 1 : Nat) : Int))).alloc (.cells #[.int .i64 nd0, .int .i64 nc, .bool nm, .int .i64 nt, .string nb] 40)).drew g 73 #[.slice (some ad) xs.length c, .int .i64 ((i + 1 : Nat) : Int)] := ((hA.set 1 _).alloc _).drew
  have hG1 : w.grownBy ((w.setCell ⟨g, 1, none⟩ (.int .i64 ((i + 1 : Nat) : Int))).alloc (.cells #[.int .i64 nd0, .int .i64 nc, .bool nm, .int .i64 nt, .string nb] 40)).drew (some g) := grown_drew (grown_alloc (grown_set (grown_refl w _) 1 _) _)
  have hN1 : At ((w.setCell ⟨g, 1, none⟩ (.int .i64 ((i + 1 : Nat) : Int))).alloc (.cells #[.int .i64 nd0, .int .i64 nc, .bool nm, .int .i64 nt, .string nb] 40)).drew w.heap.size 40 #[.int .i64 nd0, .int .i64 nc, .bool nm, .int .i64 nt, .string nb] := by
    have := At.new (w.setCell ⟨g, 1, none⟩ (.int .i64 ((i + 1 : Nat) : Int))) 40 #[.int .i64 nd0, .int .i64 nc, .bool nm, .int .i64 nt, .string nb]
    have e : (w.setCell ⟨g, 1, none⟩ (.int .i64 ((i + 1 : Nat) : Int))).heap.size = w.heap.size := by simp [World.setCell]
    rw [e] at this
    exact this.drew
  have ei : ((i + 1 : Nat) : Int) = (i : Int) + 1 := by omega
  rw [ei] at hA1 hG1 hN1
  cases nm with
  | false =>
    have hnot : (!false) = true := rfl
    have hw : wrE xs (m + 1) i = (layS nc false nt nb, i + 1) := by rw [wrE, ← hwE]; rfl
    have HW := Lib.hid hw
    have HA1 := Lib.hid hA1
    have HG1 := Lib.hid hG1
    clear hw hwE HN hA1 hG1 hN1 ei
    go_wp2_with fail
    refine (lay_any nc false nt nb _ (by omega)).mono ?_
    rintro en w2 ⟨rfl, b2⟩
    go_wp2
    go_ret
    refine ⟨by rw [HW.out]; rfl, ?_, ?_⟩
    · rw [HW.out]
      exact (HA1.out.below b2 HA1.out.lt)
    · exact grown_trans HG1.out (grown_below b2 _)
  | true =>
    have hnot : (!true) = false := rfl
    have hw : wrE xs (m + 1) i = (layS nc true nt (wrK xs m (i + 1) nd0 ⟨#[]⟩).1, (wrK xs m (i + 1) nd0 ⟨#[]⟩).2) := by rw [wrE, ← hwE]; rfl
    have HW := Lib.hid hw
    have HA1 := Lib.hid hA1
    have HG1 := Lib.hid hG1
    have HN1 := Lib.hid hN1
    clear hw hwE HN hA1 hG1 hN1 ei
    go_wp2_with fail
    go_loopw [4] (fun v wr => ∃ (k j : Nat) (b : ByteArray), 2 * (xs.length - j) + 2 ≤ k ∧ k ≤ m ∧ j ≤ xs.length ∧ i < j ∧ Hid (wrK xs m (i + 1) nd0 ⟨#[]⟩ = wrK xs k j nd0 b) ∧ b.size ≤ wt xs 0 j ∧
        At wr g 73 #[.slice (some ad) xs.length c, .int .i64 (j : Nat)] ∧ At wr w.heap.size 40 #[.int .i64 nd0, .int .i64 nc, .bool true, .int .i64 nt, .string nb] ∧
        wr.ownsRow w.heap.size 5 1 v (bytesOf b).length (nums .u8 (bytesOf b)) ∧ w.grownBy wr (some g))
      (fun _ wr => xs.length - (intOf ((wr.cell? ⟨g, 1, none⟩).getD undef)).toNat)
    case atStart =>
      have ei : ((i + 1 : Nat) : Int) = (i : Int) + 1 := by omega
      exact ⟨m, i + 1, ⟨#[]⟩, by omega, Nat.le_refl _, by omega, by omega, rfl, Nat.zero_le _, by rw [ei]; exact HA1.out, HN1.out, own_nil _ _ _ _, HG1.out⟩
    case round =>
      obtain ⟨k, j, b, k1, k2, k3, k4, HK, k5, rA, rN, rO, rG⟩ := hrel
      obtain ⟨Ab, cb, rfl⟩ := own_slice rO
      obtain ⟨k, rfl⟩ : ∃ k', k = k' + 1 := ⟨k - 1, by omega⟩
      have zw : w.heap.size ≤ wr.heap.size := rG.size
      have zw0 : w0.heap.size ≤ w.heap.size := hB.size
      have hB2 : Below w0.heap.size w0 wr := below_grow hB rG zw0 hg
      have g0 := (rA.cell 0).trans rfl
      have g1 := (rA.cell 1).trans rfl
      have d0 := (rN.cell 0).trans rfl
      have j0 : (0 : Int) ≤ (j : Int) := by omega
      by_cases hj : j < xs.length
      · obtain ⟨ad', e', m0, m1, m2, m3, m4⟩ := node_at (Kd.C_below HR.out hB2) j hj
        obtain rfl : ad = ad' := Option.some.inj e'
        obtain ⟨dj, hdj⟩ : ∃ dj, dj = (nd xs j).1 := ⟨_, rfl⟩
        rw [← hdj] at m0
        have HDJ := Lib.hid hdj
        have j1 : (j : Int) < (xs.length : Int) := by omega
        clear hdj m1 m2 m3 m4 e'
        by_cases hdp : nd0 < dj
        · have hst : wrK xs (k + 1) j nd0 b = wrK xs k (wrE xs k j).2 nd0 (b ++ (wrE xs k j).1) := by rw [wrK, if_pos ⟨hj, by rw [← HDJ.out]; exact hdp⟩]
          have hwz := (wr_size xs HM.out k).1 j hj
          obtain ⟨kk, hkk⟩ : ∃ kk, k = kk + 1 := ⟨k - 1, by omega⟩
          have hgt := wrE_gt xs kk j
          rw [← hkk] at hgt
          have HST := Lib.hid hst
          have hdec : decide (nd0 < dj) = true := decide_eq_true hdp
          have hdec2 : decide ((j : Int) < (xs.length : Int)) = true := decide_eq_true j1
          have hdec3 : decide (j < xs.length) = true := decide_eq_true hj
          clear hst hkk
          go_wp2_with fail
          go_quiet (fail)
          go_wp2_with fail
          refine (IH.out k (by omega) j g _ hj (by omega) (pw_below_drewN hB2 _) hg (rA.drewN _)).mono ?_
          rintro en w2 ⟨rfl, a2, q2⟩
          have rO2 : w2.ownsRow w.heap.size 5 1 (.slice Ab (bytesOf b).length cb) (bytesOf b).length (nums .u8 (bytesOf b)) := own_other (pw_own_below rO (pw_below_drewN (Below.refl _ _) _)) q2 (by right; exact fun e => own_ne rO rA (by decide) e.symm)
          have rN2 := (rN.drewN _).kept q2 (by have := hlt; omega)
          have rG2 : w.grownBy w2 (some g) := grown_trans (b := wr) rG ⟨q2.os, q2.tape, q2.output, q2.size, q2.block⟩
          have hcur : Hid (wr.cell? ⟨g, 1, none⟩ = some (.int .i64 (j : Nat))) := g1
          have hsz2 := HM
          clear g0 g1 d0 m0 rA rN rO rG q2 hB2
          have zw2 : w.heap.size ≤ w2.heap.size := rG2.size
          have hlen : (bytesOf b).length + (wrE xs k j).1.size ≤ 140737488355328 := by
            rw [bytesOf_length]
            have h3 := wt_all xs (wrE xs k j).2
            have h4 := wt_split xs (i := 0) (j := j) (k := (wrE xs k j).2) (by omega) hwz.1
            omega
          go_wp2_with (at_builtin; go_must (refine print_append_str (w0 := w2) w.heap.size rfl (.tmp 58) (.tmp 60) 32 9 5 rfl Try.underlying32 Try.underlying9 infoU8 (.slice Ab (bytesOf b).length cb) (bytesOf b) (wrE xs k j).1 rfl rfl rO2 (Below.refl _ _) zw2 hlen ?_); intro v1 w3 hO3 hb3 hg3)
          rw [← bytesOf_append] at hO3
          have rA3 : At w3 g 73 #[.slice (some ad) xs.length c, .int .i64 ((wrE xs k j).2 : Nat)] := (hg3.block _ a2.lt (own_ne rO2 a2 (by decide))).trans a2
          have rN3 : At w3 w.heap.size 40 #[.int .i64 nd0, .int .i64 nc, .bool true, .int .i64 nt, .string nb] := (hg3.block _ rN2.lt (own_ne rO2 rN2 (by decide))).trans rN2
          have rG3 : w.grownBy w3 (some g) := ⟨hg3.os.trans rG2.os, hg3.tape.trans rG2.tape, hg3.output.trans rG2.output, Nat.le_trans rG2.size hg3.size, fun q hq hn => (hg3.block q (by omega) (fun e => by have := own_base rO2 q e.symm; omega)).trans (rG2.block q hq hn)⟩
          have hnew := (rA3.cell 1).trans rfl
          clear a2 rO2 rN2 rG2 hb3 hg3
          go_wp2
          go_roundw
          case rel =>
            refine ⟨k, (wrE xs k j).2, b ++ (wrE xs k j).1, by omega, by omega, hwz.2.1, by omega, ?_, ?_, rA3, rN3, hO3, rG3⟩
            · unfold Hid
              rw [HK.out, HST.out]
            · rw [ByteArray.size_append]
              have h4 := wt_split xs (i := 0) (j := j) (k := (wrE xs k j).2) (by omega) hwz.1
              omega
          case measure =>
            rw [hnew, hcur.out]
            simp [intOf]
            omega
        · have hst : wrK xs (k + 1) j nd0 b = (b, j) := by rw [wrK, if_neg (fun h => hdp (by rw [HDJ.out]; exact h.2))]
          have HST := Lib.hid hst
          have hdec : decide (nd0 < dj) = false := decide_eq_false hdp
          have hdec2 : decide ((j : Int) < (xs.length : Int)) = true := decide_eq_true j1
          have hdec3 : decide (j < xs.length) = true := decide_eq_true hj
          clear hst
          have hcv : ∀ q, (convert 32 9 (.slice Ab (bytesOf b).length cb)).run Try.prog (wr.drewN q) = .ok (.string b) (wr.drewN q) := by
            intro q
            have h := own_string (P := Try.prog) (src := 32) (dst := 9) (e := 5) Try.underlying32 Try.underlying5 Try.underlying9 (pw_own_below rO (pw_below_drewN (Below.refl _ _) q))
            rwa [str_bytes] at h
          have hbs : b.size ≤ 4294967295 := by
            have h3 := wt_all xs j
            omega
          have RA := Lib.hid rA
          have RG := Lib.hid rG
          clear rA rG rO
          go_wp2_with fail
          go_quiet (fail)
          have d1 := (rN.cell 1).trans rfl
          have d3 := (rN.cell 3).trans rfl
          go_wp2_with fail
          refine (lay_any nc true nt b _ hbs).mono ?_
          rintro en w2 ⟨rfl, b2⟩
          go_wp2
          go_ret
          refine ⟨by rw [HW.out, HK.out, HST.out]; rfl, ?_, ?_⟩
          · rw [HW.out, HK.out, HST.out]
            exact (RA.out.drewN _).below b2 (RA.out.drewN _).lt
          · exact grown_trans (b := wr) RG.out ⟨b2.os, b2.tape, b2.output, b2.size, fun q hq hn => b2.block q hq⟩
      · have hst : wrK xs (k + 1) j nd0 b = (b, j) := by rw [wrK, if_neg (fun h => hj h.1)]
        have HST := Lib.hid hst
        have hdec2 : decide ((j : Int) < (xs.length : Int)) = false := decide_eq_false (by omega)
        have hdec3 : decide (j < xs.length) = false := decide_eq_false hj
        clear hst
        have hcv : ∀ q, (convert 32 9 (.slice Ab (bytesOf b).length cb)).run Try.prog (wr.drewN q) = .ok (.string b) (wr.drewN q) := by
          intro q
          have h := own_string (P := Try.prog) (src := 32) (dst := 9) (e := 5) Try.underlying32 Try.underlying5 Try.underlying9 (pw_own_below rO (pw_below_drewN (Below.refl _ _) q))
          rwa [str_bytes] at h
        have hbs : b.size ≤ 4294967295 := by
          have h3 := wt_all xs j
          omega
        have RA := Lib.hid rA
        have RG := Lib.hid rG
        clear rA rG rO
        go_wp2_with fail
        go_quiet (fail)
        have d1 := (rN.cell 1).trans rfl
        have d3 := (rN.cell 3).trans rfl
        go_wp2_with fail
        refine (lay_any nc true nt b _ hbs).mono ?_
        rintro en w2 ⟨rfl, b2⟩
        go_wp2
        go_ret
        refine ⟨by rw [HW.out, HK.out, HST.out]; rfl, ?_, ?_⟩
        · rw [HW.out, HK.out, HST.out]
          exact (RA.out.drewN _).below b2 (RA.out.drewN _).lt
        · exact grown_trans (b := wr) RG.out ⟨b2.os, b2.tape, b2.output, b2.size, fun q hq hn => b2.block q hq⟩
end Go.Proofs.Ytbgmnfkfbiemaaa.W

/-! ## Walk of ber.Write: a tree's bytes in the shortest form, or the error and the number of the first node at fault. (Lists that weigh at most 134217728 bytes.) -/
namespace Go.Proofs.Ytbgmnfkfbiemaaa.W
open Go.RowKit Go.Proofs.YtbgmnfkfbiemaaaW.PrintWords Go.Proofs.YtbgmnfkfbiemaaaW.PrintLast
set_option linter.unusedVariables false
set_option linter.unusedSimpArgs false

theorem writes_any (w0 : World) (A : Option Addr) (c : Nat) (xs : List NodeT) (hI : WrIn w0 A c xs) : ∀ m, Writes w0 A c xs m := by
  intro m
  induction m using Nat.strongRecOn with
  | _ m ih =>
    intro i g w hi hm hB hg hA
    obtain ⟨k, rfl⟩ : ∃ j, m = j + 1 := ⟨m - 1, by omega⟩
    exact element_write w0 A c xs hI k (fun j hj => ih j hj) i g w hi hm hB hg hA
theorem spot_none {w : World} {a : Addr} {v : Value} (h : w.cell? a = some v) : a.spot = none := by
  unfold World.cell? at h
  split at h
  · split at h
    · cases h
    · rename_i hs; simpa using hs
  · cases h

theorem WriteC_any (w0 : World) (A : Option Addr) (c : Nat) (xs : List NodeT) (hI : WrIn w0 A c xs) (hx : 0 < xs.length) (gw go B : Nat) (w : World) (hB : Below w0.heap.size w0 w) (hgw : w0.heap.size ≤ gw) (hgo : w0.heap.size ≤ go)
    (aW : At w gw 73 #[.slice A xs.length c, .int .i64 0]) (aO : At w go 9 #[.string ⟨#[]⟩]) (aF : At w B 61 #[.int .i64 0, .int .i64 0]) :
    Calls Try.prog 24 #[.pointer (some ⟨gw, 0, none⟩), .pointer (some ⟨go, 0, none⟩)] w (RunEnd none B fun w1 => At w1 go 9 #[.string (wrE xs (2 * xs.length + 2) 0).1] ∧ Below w0.heap.size w w1) := by
  have hE := writes_any w0 A c xs hI (2 * xs.length + 2) 0 gw w hx (by omega) hB hgw aW
  have hne : go ≠ gw := aO.ne aW (by decide)
  have hne2 : B ≠ gw := aF.ne aW (by decide)
  have hne3 : B ≠ go := aF.ne aO (by decide)
  have hB0 := hB.size
  have HE := Lib.hid hE
  clear hE hI
  go_enter Try.func24, Try.ntmps24
  go_wp2_with fail
  refine HE.out.mono ?_
  rintro en w1 ⟨rfl, a1, g1⟩
  have o1 := aO.kept g1 hne
  have f1 := aF.kept g1 hne2
  have c0 := (o1.cell 0).trans rfl
  have e0 := o1.free 0
  have O1 := Lib.hid o1
  clear o1
  go_wp2_with fail
  go_end0
  refine ⟨rfl, f1.far hne3 _, O1.out.set 0 _, ?_⟩
  exact (below_grow (Below.refl _ _) g1 hB0 hgw).setCell hgo _

/-- WHAT Write ANSWERS. -/
def Light (xs : List NodeT) : Prop := xs.length ≤ 100000000 ∧ wt xs 0 xs.length ≤ 134217728
theorem nd_out (xs : List NodeT) (i : Nat) (h : xs.length ≤ i) : nd xs i = zN := by
  unfold nd
  rw [List.getD_eq_getElem?_getD, List.getElem?_eq_none h]
  rfl
def beforeV (ad : Addr) (k : Nat) : Value := if k = 0 then .pointer none else .pointer (some (ad.add ((k - 1) * 5)))
theorem foll_depth {b : Option (Int × Bool)} {n : NodeT} (h : follB b n = true) : 1 ≤ n.1 := by
  unfold follB at h
  simp only [Bool.and_eq_true] at h
  obtain ⟨_, h⟩ := h
  cases b with
  | none => simp at h; omega
  | some x => obtain ⟨d, m⟩ := x; simp at h; omega

set_option maxRecDepth 100000 in
set_option maxHeartbeats 4000000 in
theorem Write_some (A : Option Addr) (c : Nat) (xs : List NodeT) (w : World) (hR : Kd.C kNode w A xs.length xs) (hc : xs.length ≤ c) (hL : Light xs) (hx : 0 < xs.length) :
    Calls Try.prog 14 #[.slice A xs.length c] w fun en w' => en = .returned (.tuple #[.string (writeS xs).1, .int .i64 (writeS xs).2.1, .int .i64 (writeS xs).2.2]) ∧ Below w.heap.size w w' := by
  have hmf : ∀ (fn : Fn) (first cap : Array Value) (w : World), (Instr.makeFunc fn first cap).run Try.prog w = .ok (.func fn first cap) w := fun _ _ _ _ => rfl
  obtain ⟨hfew, hlight⟩ := hL
  obtain ⟨ad, rfl, -⟩ := node_at hR 0 hx
  obtain ⟨r, hr⟩ : ∃ r, badN xs (xs.length + 1) 0 = r := ⟨_, rfl⟩
  obtain ⟨ws, hws⟩ : ∃ ws, writeS xs = ws := ⟨_, rfl⟩
  have hws2 : ws = match (generalizing := false) r with | some x => (⟨#[]⟩, x.1, x.2) | none => ((wrE xs (2 * xs.length + 2) 0).1, 0, 0) := by
    rw [← hws, ← hr]
    unfold writeS
    rw [if_neg (by omega)]
    cases badN xs (xs.length + 1) 0 <;> rfl
  have hgood : Hid (r = none → WrIn w (some ad) c xs) := by
    intro h
    refine ⟨hR, hc, hfew, hlight, fun i hi => ?_⟩
    by_cases hil : i < xs.length
    · exact (foll_made (badN_at xs _ 0 (by rw [hr]; exact h) (by omega) i (by omega) hil).1).2 hi
    · rw [nd_out xs i (by omega)] at hi; cases hi
  rw [hws]
  have HWS := Lib.hid hws2
  have HBR := Lib.hid hr
  have HR := Lib.hid hR
  have hx0 : ((xs.length : Int) == 0) = false := by rw [beq_eq_false_iff_ne]; omega
  have hx1 : (xs.length == 0) = false := by rw [beq_eq_false_iff_ne]; omega
  clear hws hws2 hr hR
  go_enter Try.func14, Try.ntmps14
  go_wp2_with fail
  go_loopw [5, 15] (fun v i wr => ∃ k : Nat, k ≤ xs.length ∧ v = beforeV ad k ∧ i = .int .i64 k ∧ Hid (r = badN xs (xs.length + 1 - k) k) ∧ (0 < k → 0 ≤ (nd xs (k - 1)).1 ∧ (nd xs (k - 1)).1 ≤ 64) ∧ Below w.heap.size w wr)
    (fun _ i _ => xs.length - (intOf i).toNat)
  case atStart => exact ⟨0, Nat.zero_le _, rfl, rfl, HBR.out.symm, fun h => by omega, Below.refl _ _⟩
  case round =>
    obtain ⟨k, hk, rfl, rfl, HB, hprev, qB⟩ := hrel
    have zw := qB.size
    by_cases hkl : k < xs.length
    · obtain ⟨ad', e', m0, m1, m2, m3, m4⟩ := node_at (Kd.C_below HR.out qB) k hkl
      obtain rfl : ad = ad' := Option.some.inj e'
      have k0 : (0 : Int) ≤ (k : Int) := by omega
      have k1 : (k : Int) < (xs.length : Int) := by omega
      have hF : ∀ W, wr = W → Calls Try.prog 23 #[beforeV ad k, .agg #[.int .i64 (nd xs k).1, .int .i64 (nd xs k).2.1, .bool (nd xs k).2.2.1, .int .i64 (nd xs k).2.2.2.1, .string (nd xs k).2.2.2.2]] W fun en w' => en = .returned (.bool (follB (prevOf xs k) (nd xs k))) ∧ Below W.heap.size W w' := by
        rintro W rfl
        unfold beforeV prevOf
        by_cases h0 : k = 0
        · rw [if_pos h0, if_pos h0]
          exact follows_first _ _
        · rw [if_neg h0, if_neg h0]
          obtain ⟨ad2, e2, p0, _, p2, _, _⟩ := node_at (Kd.C_below HR.out qB) (k - 1) (by omega)
          obtain rfl : ad = ad2 := Option.some.inj e2
          have hp := hprev (by omega)
          exact follows_next _ _ _ _ _ hp.1 hp.2 p0 p2 (World.block_lt_of_cell? wr _ p0) (spot_none p0)
      obtain ⟨n, hn⟩ : ∃ n, n = nd xs k := ⟨_, rfl⟩
      rw [← hn] at m0 m1 m2 m3 m4 hF
      obtain ⟨fb, hfb⟩ : ∃ fb, fb = follB (prevOf xs k) n := ⟨_, rfl⟩
      rw [← hfb] at hF
      have hst : badN xs (xs.length + 1 - k) k = if fb = true then (if 64 < n.1 then some (25, (k : Int)) else badN xs (xs.length + 1 - (k + 1)) (k + 1)) else some (28, (k : Int)) := by
        have e : xs.length + 1 - k = (xs.length + 1 - (k + 1)) + 1 := by omega
        rw [e, badN, if_pos hkl, ← hn, ← hfb]
      have hfd : fb = true → 1 ≤ n.1 := fun h => foll_depth (b := prevOf xs k) (by rw [← hfb]; exact h)
      have HF := Lib.hid hF
      have HST := Lib.hid hst
      have HN := Lib.hid hn
      have HFD := Lib.hid hfd
      have HPR := Lib.hid hprev
      obtain ⟨bv, hbv⟩ : ∃ bv, bv = beforeV ad k := ⟨_, rfl⟩
      rw [← hbv]
      have HBV := Lib.hid hbv
      clear hF hst hn hfb hfd hprev hbv e'
      cases fb with
      | false =>
        have hnot : (!false) = true := rfl
        go_wp2_with fail
        rw [HBV.out]
        refine (HF.out _ rfl).mono ?_
        rintro en w2 ⟨rfl, b2⟩
        have hrr := HB.out
        rw [HST.out, if_neg Bool.false_ne_true] at hrr
        subst hrr
        clear HBV
        go_wp2
        go_ret3
        rw [HWS.out]
        exact ⟨rfl, qB.trans (b2.mono zw)⟩
      | true =>
        have hnot : (!true) = false := rfl
        have hd1 := HFD.out rfl
        by_cases hdp : 64 < n.1
        · have hrr := HB.out
          rw [HST.out, if_pos rfl, if_pos hdp] at hrr
          subst hrr
          go_wp2_with fail
          rw [HBV.out]
          refine (HF.out _ rfl).mono ?_
          rintro en w2 ⟨rfl, b2⟩
          have m0' := pw_cell_below b2 m0
          clear HBV
          go_wp2
          go_ret3
          rw [HWS.out]
          exact ⟨rfl, qB.trans (b2.mono zw)⟩
        · have hrr : Hid (r = badN xs (xs.length + 1 - (k + 1)) (k + 1)) := by
            have h := HB.out
            rw [HST.out, if_pos rfl, if_neg hdp] at h
            exact h
          go_wp2_with fail
          rw [HBV.out]
          refine (HF.out _ rfl).mono ?_
          rintro en w2 ⟨rfl, b2⟩
          have m0' := pw_cell_below b2 m0
          have hbn : Value.pointer (some (ad.add (k * 5))) = beforeV ad (k + 1) := by unfold beforeV; rw [if_neg (by omega)]; rfl
          have HBN := Lib.hid hbn
          have HN2 : Hid (0 < k + 1 → 0 ≤ (nd xs (k + 1 - 1)).1 ∧ (nd xs (k + 1 - 1)).1 ≤ 64) := by
            intro _
            have e : k + 1 - 1 = k := by omega
            rw [e, ← HN.out]
            omega
          clear HBV hbn
          go_wp2
          go_roundw
          case rel => exact ⟨k + 1, by omega, HBN.out, by go_num, hrr, HN2.out, qB.trans (b2.mono zw)⟩
          case measure => simp [intOf]; omega
    · obtain rfl : k = xs.length := by omega
      have hrr := HB.out
      have e : xs.length + 1 - xs.length = 1 := by omega
      rw [e, badN, if_neg (by omega)] at hrr
      subst hrr
      obtain ⟨bv, hbv⟩ : ∃ bv, bv = beforeV ad xs.length := ⟨_, rfl⟩
      rw [← hbv]
      have hgd := hgood.out rfl
      have HG := Lib.hid hgd
      clear hbv hgd hgood hprev HBR e
      go_wp2_with fail
      refine gen2 (w := wr) (G := fun W => Calls _ _ _ W _) fun W hB2 hz k1 k2 => ?_
      have B1 : Below w.heap.size w W := qB.trans (hB2.mono zw)
      have aF := At.new W 61 #[.int .i64 0, .int .i64 0]
      refine (caught_WriteC _ _ none _ (WriteC_any w (some ad) c xs HG.out hx wr.heap.size (wr.heap.size + 1) W.heap.size _ (B1.alloc (by omega) _) (by omega) (by omega) (k1.alloc _) (k2.alloc _) aF)).mono ?_
      rintro en w2 ⟨rfl, w1, ⟨m1, m2⟩, hg⟩
      have zW : W.heap.size ≤ w1.heap.size := by have := m2.size; simp at this; omega
      have n2 := m1.kept hg (by omega)
      have B2 : Below w.heap.size w w2 := below_kept ((B1.alloc (by omega) _).trans m2) hg (by omega) (by omega)
      have hz2 : w.heap.size ≤ w2.heap.size := B2.size
      clear m1 m2 hg k1 k2 aF hB2 hz
      have z2 := n2.lt
      have c0 := (n2.cell 0).trans rfl
      have N2 := Lib.hid n2
      clear n2
      have e1 : errOf none = 0 := rfl
      have e2 : atOf none = 0 := rfl
      go_wp2_with fail
      go_region
      go_wp2
      go_ret3
      rw [HWS.out]
      exact ⟨rfl, (B2.alloc hz2 _).drew⟩

theorem Write_none (A : Option Addr) (c : Nat) (w : World) :
    Calls Try.prog 14 #[.slice A 0 c] w fun en w' => en = .returned (.tuple #[.string ⟨#[]⟩, .int .i64 28, .int .i64 0]) ∧ Below w.heap.size w w' := by
  go_enter Try.func14, Try.ntmps14
  go_wp2
  go_ret3
  exact ⟨rfl, Below.refl _ _⟩
theorem Write_any (A : Option Addr) (c : Nat) (xs : List NodeT) (w : World) (hR : Kd.C kNode w A xs.length xs) (hc : xs.length ≤ c) (hL : Light xs) :
    Calls Try.prog 14 #[.slice A xs.length c] w fun en w' => en = .returned (.tuple #[.string (writeS xs).1, .int .i64 (writeS xs).2.1, .int .i64 (writeS xs).2.2]) ∧ Below w.heap.size w w' := by
  by_cases hx : xs.length = 0
  · obtain rfl := List.eq_nil_of_length_eq_zero hx
    exact Write_none A c w
  · exact Write_some A c xs w hR hc hL (by omega)
theorem C_iso {α β : Type} {d : Kd α} {f : β → α} {w : World} {A : Option Addr} {n : Nat} {xs : List β} (h : Kd.C (Kd.iso d f) w A n xs) : Kd.C d w A n (xs.map f) := by
  obtain ⟨h1, h2, h3⟩ := h
  refine ⟨by rw [List.length_map]; exact h1, h2, fun hn => ?_⟩
  obtain ⟨ad, e, hc⟩ := h3 hn
  refine ⟨ad, e, fun j p hj => ?_⟩
  rw [List.getElem?_map] at hj
  obtain ⟨q, hq, rfl⟩ := Option.map_eq_some_iff.1 hj
  exact hc j q hq
end Go.Proofs.Ytbgmnfkfbiemaaa.W
