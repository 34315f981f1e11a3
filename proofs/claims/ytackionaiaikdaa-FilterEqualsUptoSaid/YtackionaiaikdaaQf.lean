/- Walk of Equal of two filters: EqualFunc over a literal that captures nothing. -/
import Derived.Test.YtackionaiaikdaaGEx
import Derived.Lib.Hide
namespace Go.Proofs.Ytackionaiaikdaa.W
open Go.RowKit Go.Proofs.YtackionaiaikdaaW.PrintWords Go.Proofs.YtackionaiaikdaaW.PrintLast Go.Proofs.Ytackionaiaikdaa.GE
set_option linter.unusedVariables false
set_option linter.unusedSimpArgs false

/-- What the literal answers of two nodes (the rounds told). -/
def litEq (a b : S31) (r : Bool) : Prop := ∃ k, filter_Equal_1.f k a.f0 a.f1 a.f2 a.f3 a.f4.f0 a.f4.f1 a.f4.f2 a.f5 a.f6 b.f0 b.f1 b.f2 b.f3 b.f4.f0 b.f4.f1 b.f4.f2 b.f5 b.f6 = some r
theorem eqf_any (A0 : Option Addr) (c0 : Nat) (l0 : List S31) (A1 : Option Addr) (c1 : Nat) (l1 : List S31) (w : World) (hr0 : Kd.C k31 w A0 l0.length l0) (hc0 : l0.length ≤ c0) (hr1 : Kd.C k31 w A1 l1.length l1) (hc1 : l1.length ≤ c1)
    (hn : l0.length ≤ 1048576) (hq : ∀ a, a ∈ l0 → ∀ b, ∃ r, litEq a b r ∧ (r = true ↔ a = b)) :
    Calls Try.prog 7 #[.slice A0 l0.length c0, .slice A1 l1.length c1, .func (.func 8) #[] #[]] w fun en w' => ∃ r, en = .returned (.bool r) ∧ (r = true ↔ l0 = l1) ∧ Below w.heap.size w w' := by
  have hu := Try.underlying31
  by_cases hl : l0.length = l1.length
  · have hlb : ((l0.length : Int) != (l1.length : Int)) = false := by rw [hl]; exact bne_self_eq_false _
    have HL := Lib.hid hl
    clear hl
    go_enter Try.func7, Try.ntmps7
    go_wp2
    go_loopw [17] (fun v wr => ∃ i : Nat, v = .int .i64 i ∧ i ≤ l0.length ∧ l0.take i = l1.take i ∧ Below w.heap.size w wr) (fun v _ => l0.length - (intOf v).toNat)
    case atStart => exact ⟨0, rfl, Nat.zero_le _, by simp, Below.refl _ _⟩
    case round =>
      obtain ⟨i, rfl, hi, he, hb⟩ := hrel
      by_cases hil : i < l0.length
      · have p : (0 : Int) ≤ i := by omega
        have q : (i : Int) < l0.length := by omega
        have q1 : (i : Int) < l1.length := by have := HL.out; omega
        obtain ⟨ad0, B0, d0, e0, x00, x01, x02, x03, x04, x05, x06, x07, x08, y0, z0⟩ := at_T31 (Kd.C_below hr0 hb) i p q
        subst e0
        obtain ⟨ad1, B1, d1, e1, x10, x11, x12, x13, x14, x15, x16, x17, x18, y1, z1⟩ := at_T31 (Kd.C_below hr1 hb) i p q1
        subst e1
        have lt0' : (ad0.add (i * 9)).block < wr.heap.size := by have := World.block_lt_of_cell? wr _ x00; rwa [Int.toNat_natCast] at this
        have lt1' : (ad1.add (i * 9)).block < wr.heap.size := by have := World.block_lt_of_cell? wr _ x10; rwa [Int.toNat_natCast] at this
        have lt0 : ad0.block < wr.heap.size := by have h := lt0'; unfold Addr.add at h; split at h <;> exact h
        have lt1 : ad1.block < wr.heap.size := by have h := lt1'; unfold Addr.add at h; split at h <;> exact h
        obtain ⟨r, ⟨k, hf⟩, hr⟩ := hq _ (show rd_T31 l0 i ∈ l0 by rw [show rd_T31 l0 i = l0[i] by simp [rd_T31, hil]]; exact List.getElem_mem _) (rd_T31 l1 i)
        simp only [Int.toNat_natCast] at x00 x01 x02 x03 x04 x05 x06 x07 x08 x10 x11 x12 x13 x14 x15 x16 x17 x18
        go_wp2_with (go_at_call 8; refine (filter_Equal_1.calls k _ _ _ _ _ _ _ _ _ _ _ _ _ _ _ _ _ _ _ _ _ _ r _ ?_ y0 ?_ y1 hf).mono ?_)
        · exact Kd.C_below z0 (below_alloc (below_alloc (Below.refl _ _) _) _)
        · exact Kd.C_below z1 (below_alloc (below_alloc (Below.refl _ _) _) _)
        rintro en w2 ⟨rfl, hb2⟩
        have HB : Below w.heap.size w w2 := below_step (below_alloc (below_alloc hb _) _) hb2
        have HBB := Lib.hid HB
        clear hb2 HB
        have j1 : i < l1.length := by omega
        have n0 : rd_T31 l0 i = l0[i] := by simp [rd_T31, hil]
        have n1 : rd_T31 l1 i = l1[i] := by simp [rd_T31, j1]
        have hr' : r = true ↔ l0[i] = l1[i] := by rw [← n0, ← n1]; exact hr
        clear n0 n1 hr
        cases r with
        | true =>
          have e := Lib.hid (hr'.1 rfl)
          clear hr'
          go_wp2
          go_roundw
          case rel => exact ⟨i + 1, by go_num, by omega, by
            rw [List.take_succ_eq_append_getElem hil, List.take_succ_eq_append_getElem j1, he, e.out], HBB.out⟩
          case measure => simp [intOf]; omega
        | false =>
          have e : ¬ l0[i] = l1[i] := fun h => by have := hr'.2 h; cases this
          have e := Lib.hid e
          clear hr'
          go_wp2
          go_ret
          refine ⟨false, rfl, ⟨fun h => (by cases h), ?_⟩, HBB.out⟩
          rintro rfl
          exact absurd rfl e.out
      · obtain rfl : i = l0.length := by omega
        go_wp2
        go_ret
        refine ⟨true, rfl, ?_, hb⟩
        rw [List.take_length, HL.out, List.take_length] at he
        exact ⟨fun _ => he, fun _ => rfl⟩
  · have hlb : ((l0.length : Int) != (l1.length : Int)) = true := by
      rw [bne_iff_ne]
      omega
    go_enter Try.func7, Try.ntmps7
    go_wp2
    go_ret
    exact ⟨false, rfl, by simp; rintro rfl; exact hl rfl, Below.refl _ _⟩

/-! plain: what the literal tells -/
theorem q_toList {a b : ByteArray} : a.toList = b.toList ↔ a = b := by
  constructor
  · intro h
    rw [ByteArray.toList_eq, ByteArray.toList_eq] at h
    exact ByteArray.ext (Array.toList_inj.1 h)
  · rintro rfl; rfl
theorem q_wrap (i : Nat) (h : i ≤ 1048576) : wrap64 ((i : Int) + 1) = ((i + 1 : Nat) : Int) := by
  unfold wrap64; omega
theorem q_rd {α : Type} (d : α) (l : List α) (i : Nat) (h : i < l.length) : rdOf d l i = l[i] := by
  simp [rdOf, h]
theorem slEq (l l' : List ByteArray) (h : l.length = l'.length) (hl : l.length ≤ 1048576) :
    ∀ (j i k : Nat), i + j = l.length → j < k → ∃ r, slices_Equal_string_string.l0 k l l' (l.length : Int) i = some r ∧ (r = true ↔ l.drop i = l'.drop i) := by
  intro j
  induction j with
  | zero =>
    intro i k hi hk
    obtain ⟨k, rfl⟩ : ∃ q, k = q + 1 := ⟨k - 1, by omega⟩
    refine ⟨true, ?_, ?_⟩
    · unfold slices_Equal_string_string.l0
      rw [if_neg (by omega)]
    · rw [List.drop_of_length_le (by omega), List.drop_of_length_le (by omega)]
      exact ⟨fun _ => rfl, fun _ => rfl⟩
  | succ j ih =>
    intro i k hi hk
    obtain ⟨k, rfl⟩ : ∃ q, k = q + 1 := ⟨k - 1, by omega⟩
    have g0 : i < l.length := by omega
    have g1 : i < l'.length := by omega
    unfold slices_Equal_string_string.l0
    rw [if_pos (by omega), if_pos (by omega), if_pos (by omega), if_pos (by omega), q_rd _ _ _ g0, q_rd _ _ _ g1, List.drop_eq_getElem_cons g0, List.drop_eq_getElem_cons g1]
    by_cases e : l[i].toList = l'[i].toList
    · rw [if_pos e, q_wrap i (by omega)]
      obtain ⟨r, hr, hq⟩ := ih (i + 1) k (by omega) (by omega)
      refine ⟨r, hr, hq.trans ?_⟩
      rw [q_toList.1 e]
      exact ⟨fun h => by rw [h], fun h => (List.cons.inj h).2⟩
    · rw [if_neg e]
      refine ⟨false, rfl, ⟨fun h => (by cases h), fun h => absurd ((List.cons.inj h).1) (fun x => e (q_toList.2 x))⟩⟩
theorem slEq_f (l l' : List ByteArray) (hl : l.length ≤ 1048576) : ∃ r, slices_Equal_string_string.f 1048577 l l' = some r ∧ (r = true ↔ l = l') := by
  unfold slices_Equal_string_string.f
  by_cases h : l.length = l'.length
  · rw [if_pos (by omega)]
    obtain ⟨r, hr, hq⟩ := slEq l l' h hl l.length 0 1048577 (by omega) (by omega)
    exact ⟨r, hr, hq⟩
  · rw [if_neg (by omega)]
    exact ⟨false, rfl, ⟨fun x => (by cases x), fun x => absurd (congrArg List.length x) h⟩⟩
theorem litEq_any (a b : S31) (h : a.f4.f1.length ≤ 1048576) : ∃ r, litEq a b r ∧ (r = true ↔ a = b) := by
  obtain ⟨r, hr, hq⟩ := slEq_f a.f4.f1 b.f4.f1 h
  obtain ⟨a0, a1, a2, a3, ⟨a4, a5, a6⟩, a7, a8⟩ := a
  obtain ⟨b0, b1, b2, b3, ⟨b4, b5, b6⟩, b7, b8⟩ := b
  have key : (⟨a0, a1, a2, a3, ⟨a4, a5, a6⟩, a7, a8⟩ : S31) = ⟨b0, b1, b2, b3, ⟨b4, b5, b6⟩, b7, b8⟩ ↔ (a5 = b5 ∧ a4 = b4 ∧ a6 = b6 ∧ a0 = b0 ∧ a1 = b1 ∧ a2 = b2 ∧ a3 = b3 ∧ a7 = b7 ∧ a8 = b8) := by
    simp only [S31.mk.injEq, S29.mk.injEq]
    constructor
    · rintro ⟨h0, h1, h2, h3, ⟨h4, h5, h6⟩, h7, h8⟩
      exact ⟨h5, h4, h6, h0, h1, h2, h3, h7, h8⟩
    · rintro ⟨h5, h4, h6, h0, h1, h2, h3, h7, h8⟩
      exact ⟨h0, h1, h2, h3, ⟨h4, h5, h6⟩, h7, h8⟩
  rw [key]
  dsimp only at hr hq
  have no : ∀ {P : Prop}, ¬ P → ∃ r, (some false = some r) ∧ (r = true ↔ P) := fun h => ⟨false, rfl, ⟨fun x => (by cases x), fun x => absurd x h⟩⟩
  suffices hs : ∃ r, filter_Equal_1.f 1048577 a0 a1 a2 a3 a4 a5 a6 a7 a8 b0 b1 b2 b3 b4 b5 b6 b7 b8 = some r ∧ (r = true ↔ (a5 = b5 ∧ a4 = b4 ∧ a6 = b6 ∧ a0 = b0 ∧ a1 = b1 ∧ a2 = b2 ∧ a3 = b3 ∧ a7 = b7 ∧ a8 = b8)) by
    obtain ⟨r, h1, h2⟩ := hs
    exact ⟨r, ⟨_, h1⟩, h2⟩
  unfold filter_Equal_1.f
  rw [hr, Option.bind_some]
  cases r with
  | false =>
    rw [if_neg (by decide)]
    exact no (fun x => by have := hq.2 x.1; cases this)
  | true =>
    rw [if_pos rfl]
    have e5 := hq.1 rfl
    by_cases e4 : a4.toList = b4.toList
    rotate_left
    · rw [if_neg e4]; exact no (fun x => e4 (q_toList.2 x.2.1))
    rw [if_pos e4]
    by_cases e6 : a6.toList = b6.toList
    rotate_left
    · rw [if_neg e6]; exact no (fun x => e6 (q_toList.2 x.2.2.1))
    rw [if_pos e6]
    by_cases e0 : a0 = b0
    rotate_left
    · rw [if_neg e0]; exact no (fun x => e0 x.2.2.2.1)
    rw [if_pos e0]
    by_cases e1 : a1 = b1
    rotate_left
    · rw [if_neg e1]; exact no (fun x => e1 x.2.2.2.2.1)
    rw [if_pos e1]
    by_cases e2 : a2.toList = b2.toList
    rotate_left
    · rw [if_neg e2]; exact no (fun x => e2 (q_toList.2 x.2.2.2.2.2.1))
    rw [if_pos e2]
    by_cases e3 : a3.toList = b3.toList
    rotate_left
    · rw [if_neg e3]; exact no (fun x => e3 (q_toList.2 x.2.2.2.2.2.2.1))
    rw [if_pos e3]
    by_cases e7 : a7.toList = b7.toList
    rotate_left
    · rw [if_neg e7]; exact no (fun x => e7 (q_toList.2 x.2.2.2.2.2.2.2.1))
    rw [if_pos e7]
    refine ⟨_, rfl, ?_⟩
    rw [beq_iff_eq]
    exact ⟨fun e8 => ⟨e5, q_toList.1 e4, q_toList.1 e6, e0, e1, q_toList.1 e2, q_toList.1 e3, q_toList.1 e7, e8⟩, fun x => x.2.2.2.2.2.2.2.2⟩
deriving instance DecidableEq for S29
deriving instance DecidableEq for S31
/-- Equal of two lists, of whatever kind of node (f: as the walk's own). -/
theorem Equal_any (A0 : Option Addr) (c0 : Nat) (l0 : List S31) (A1 : Option Addr) (c1 : Nat) (l1 : List S31) (w : World) (hr0 : Kd.C k31 w A0 l0.length l0) (hc0 : l0.length ≤ c0) (hr1 : Kd.C k31 w A1 l1.length l1) (hc1 : l1.length ≤ c1)
    (hn : l0.length ≤ 1048576) (hq : ∀ a, a ∈ l0 → a.f4.f1.length ≤ 1048576) :
    Calls Try.prog 4 #[.slice A0 l0.length c0, .slice A1 l1.length c1] w fun en w' => en = .returned (.bool (decide (l0 = l1))) ∧ Below w.heap.size w w' := by
  go_enter Try.func4, Try.ntmps4
  go_wp2_with fail
  refine (eqf_any A0 c0 l0 A1 c1 l1 w hr0 hc0 hr1 hc1 hn (fun a ha b => litEq_any a b (hq a ha))).mono ?_
  rintro en w2 ⟨r, rfl, hr, hb⟩
  have e : r = decide (l0 = l1) := by
    by_cases h : l0 = l1
    · rw [decide_eq_true h]; exact hr.2 h
    · rw [decide_eq_false h]; cases r with
      | false => rfl
      | true => exact absurd (hr.1 rfl) h
  clear hr
  go_wp2
  go_ret
  exact ⟨rfl, hb⟩
end Go.Proofs.Ytackionaiaikdaa.W
