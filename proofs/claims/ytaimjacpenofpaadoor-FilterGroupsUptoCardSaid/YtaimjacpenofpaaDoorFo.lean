/- rosterref12.follows, walked: what it answers of a list and a place in it (filter.follows: printed). -/
import Derived.Test.YtaimjacpenofpaaDoorGHx1
import Derived.Lib.Hide
namespace Go.Proofs.YtaimjacpenofpaaDoor.W
open Go.RowKit Go.Proofs.YtaimjacpenofpaaDoorW.PrintWords Go.Proofs.YtaimjacpenofpaaDoorW.PrintLast Go.Proofs.YtaimjacpenofpaaDoor.GH
set_option linter.unusedVariables false
set_option linter.unusedSimpArgs false
def holdsB (op : Int) : Bool := decide (op = 0) || decide (op = 1) || decide (op = 2)
theorem holds_r (o : Int) : rosterref12_holds.f o = some (holdsB o) := by
  unfold rosterref12_holds.f holdsB
  by_cases h0 : o = 0
  · rw [if_pos h0, decide_eq_true h0]; rfl
  · rw [if_neg h0, decide_eq_false h0]
    by_cases h1 : o = 1
    · rw [if_pos h1, decide_eq_true h1]; rfl
    · rw [if_neg h1, decide_eq_false h1, Bool.false_or, Bool.false_or]
      congr 1
/-- May a node of depth d stand behind one of depth a and Op o? (the document's words) -/
def rfolB (d a o : Int) : Bool := decide (2 ≤ d) && decide (d ≤ wrap64 (a + 1)) && (decide (d ≤ a) || holdsB o)
theorem add_zero_ (a : Addr) : a.add 0 = a := by
  unfold Addr.add
  split <;> simp_all
theorem rfol_zero (A0 : Option Addr) (c0 : Nat) (l0 : List S38) (w : World) (hr0 : Kd.C k38 w A0 l0.length l0) (hc0 : l0.length ≤ c0) (h0 : 0 < l0.length) :
    Calls Tryd.prog 20 #[.slice A0 l0.length c0, .int .i64 0] w fun en w' => en = .returned (.bool ((rd_T38 l0 0).f0 == 1)) ∧ Below w.heap.size w w' := by
  have p : (0 : Int) < l0.length := by omega
  obtain ⟨ad0, B0, d0, e0, x00, x01, x02, x03, x04, x05, x06, x07, x08, y0, z0⟩ := at_T38 hr0 0 (by decide) p
  subst e0
  have x00 : w.cell? ad0 = some (.int .i64 (rd_T38 l0 0).f0) := by
    have h := x00
    rw [show Int.toNat 0 * 9 = 0 from rfl, add_zero_] at h
    exact h
  have hu := Tryd.underlying38
  go_enter Tryd.func20, Tryd.ntmps20
  go_wp2
  go_ret
  exact ⟨rfl, Below.refl _ _⟩
theorem rfol_succ (A0 : Option Addr) (c0 : Nat) (l0 : List S38) (i : Nat) (w : World) (hr0 : Kd.C k38 w A0 l0.length l0) (hc0 : l0.length ≤ c0) (h0 : i + 1 < l0.length) (hl : l0.length ≤ 140737488355328) :
    Calls Tryd.prog 20 #[.slice A0 l0.length c0, .int .i64 ((i + 1 : Nat) : Int)] w fun en w' => en = .returned (.bool (rfolB (rd_T38 l0 ((i + 1 : Nat) : Int)).f0 (rd_T38 l0 (i : Int)).f0 (rd_T38 l0 (i : Int)).f1)) ∧ Below w.heap.size w w' := by
  have p : ((i + 1 : Nat) : Int) < l0.length := by omega
  have p' : (0 : Int) ≤ ((i + 1 : Nat) : Int) := by omega
  have q : (i : Int) < l0.length := by omega
  have q' : (0 : Int) ≤ (i : Int) := by omega
  obtain ⟨ad0, B0, d0, e0, x00, x01, x02, x03, x04, x05, x06, x07, x08, y0, z0⟩ := at_T38 hr0 _ p' p
  obtain ⟨ad1, B1, d1, e1, x10, x11, x12, x13, x14, x15, x16, x17, x18, y1, z1⟩ := at_T38 hr0 _ q' q
  subst e0
  obtain rfl := Option.some.inj e1
  have z : (((i + 1 : Nat) : Int) == 0) = false := by rw [beq_eq_false_iff_ne]; omega
  have w0 : wrap64 (((i + 1 : Nat) : Int) - 1) = (i : Int) := by unfold wrap64; omega
  generalize rd_T38 l0 ((i + 1 : Nat) : Int) = nd at *
  generalize rd_T38 l0 (i : Int) = na at *
  have lt0 : ad0.block < w.heap.size := by
    have h := World.block_lt_of_cell? w _ x10
    unfold Addr.add at h; split at h <;> exact h
  have x00 : w.cell? (ad0.add ((i + 1) * 9)) = some (.int .i64 nd.f0) := by have h := x00; rw [Int.toNat_natCast] at h; exact h
  have XA : ∀ o, (w.alloc o).cell? (ad0.add ((i + 1) * 9)) = some (.int .i64 nd.f0) := fun o => (World.cell?_alloc_lt w o _ (by
    have h := World.block_lt_of_cell? w _ x00
    exact h)).trans x00
  clear x01 x02 x03 x04 x05 x06 x07 x08 y0 z0
  simp only [Int.toNat_natCast] at x10 x11 x12 x13 x14 x15 x16 x17 x18
  have HR := Lib.hid hr0
  clear hr0
  have hu := Tryd.underlying38
  obtain ⟨e, he⟩ : ∃ e, e = wrap64 (na.f0 + 1) := ⟨_, rfl⟩
  have hE : wrap64 (na.f0 + 1) = e := he.symm
  unfold rfolB
  rw [← he]
  clear he
  by_cases c1 : nd.f0 < 2
  · have c1' : ¬ (2 ≤ nd.f0) := by omega
    have b1 := decide_eq_true c1
    rw [decide_eq_false c1']
    go_enter Tryd.func20, Tryd.ntmps20
    go_wp2
    go_quiet (fail)
    go_wp2
    go_ret
    exact ⟨rfl, by repeat (first | exact Below.refl _ _ | apply below_alloc | apply pw_below_drewN | apply below_drew1)⟩
  · have c1' : 2 ≤ nd.f0 := by omega
    have b1 := decide_eq_false c1
    rw [decide_eq_true c1', Bool.true_and]
    by_cases c2 : e < nd.f0
    · have c2' : ¬ (nd.f0 ≤ e) := by omega
      have b2 := decide_eq_true c2
      rw [decide_eq_false c2', Bool.false_and]
      go_enter Tryd.func20, Tryd.ntmps20
      go_wp2
      go_quiet (fail)
      go_wp2
      go_ret
      exact ⟨rfl, by repeat (first | exact Below.refl _ _ | apply below_alloc | apply pw_below_drewN | apply below_drew1)⟩
    · have c2' : nd.f0 ≤ e := by omega
      have b2 := decide_eq_false c2
      rw [decide_eq_true c2', Bool.true_and]
      by_cases c3 : nd.f0 ≤ na.f0
      · have b3 := decide_eq_true c3
        rw [b3, Bool.true_or]
        go_enter Tryd.func20, Tryd.ntmps20
        go_wp2
        go_quiet (fail)
        go_wp2
        go_quiet (fail)
        go_wp2
        go_ret
        exact ⟨rfl, by repeat (first | exact Below.refl _ _ | apply below_alloc | apply pw_below_drewN | apply below_drew1)⟩
      · have b3 := decide_eq_false c3
        rw [b3, Bool.false_or]
        go_enter Tryd.func20, Tryd.ntmps20
        go_wp2
        go_quiet (fail)
        go_wp2
        go_quiet ((go_at_call 11; (refine (rosterref12_holds.calls na.f1 (holdsB na.f1) _ (holds_r _)).mono ?_); rintro e w' ⟨rfl, ⟨nd, rfl⟩⟩; first | exact ⟨rfl, _, World.drewN_drewN _ _ _⟩ | exact ⟨rfl, _, Eq.trans (World.drewN_drewN _ _ _) (congrArg (World.drewN _) (Nat.add_assoc _ _ _))⟩ | exact ⟨rfl, _, rfl⟩))
        go_wp2
        go_ret
        exact ⟨rfl, by repeat (first | exact Below.refl _ _ | apply below_alloc | apply pw_below_drewN | apply below_drew1)⟩
end Go.Proofs.YtaimjacpenofpaaDoor.W
