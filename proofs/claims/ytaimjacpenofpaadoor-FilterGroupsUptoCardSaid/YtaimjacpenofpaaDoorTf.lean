/- Chapter 1's reader, computed: what the relations of Tc, Td, Te tell. -/
import Derived.Test.YtaimjacpenofpaaDoorTe
namespace Go.Proofs.YtaimjacpenofpaaDoor.W
open Go.RowKit Go.Proofs.YtaimjacpenofpaaDoorW.PrintWords
set_option linter.unusedVariables false
def fitB (s : ByteArray) (i row : Nat) : Bool :=
  decide ((i : Int) + T (row * 9) ≤ s.size) && (List.range (T (row * 9)).toNat).all fun j => decide (T (row * 9 + (1 + 2 * j)) ≤ bt s (i + j)) && decide (bt s (i + j) ≤ T (row * 9 + (2 + 2 * j)))
theorem fitB_iff (s : ByteArray) (i row : Nat) : fitB s i row = true ↔ Fit s i row := by
  unfold fitB Fit
  rw [Bool.and_eq_true, decide_eq_true_iff, List.all_eq_true]
  constructor
  · rintro ⟨h1, h2⟩
    refine ⟨h1, fun j hj => ?_⟩
    have := h2 j (List.mem_range.2 (by omega))
    rw [Bool.and_eq_true, decide_eq_true_iff, decide_eq_true_iff] at this
    exact this
  · rintro ⟨h1, h2⟩
    refine ⟨h1, fun j hj => ?_⟩
    have := h2 j (by have := List.mem_range.1 hj; omega)
    rw [Bool.and_eq_true, decide_eq_true_iff, decide_eq_true_iff]
    exact this
/-- The first row from r on that fits, of c rows. -/
def seqFrom (s : ByteArray) (i : Nat) : Nat → Nat → Int
  | _, 0 => 0
  | r, c + 1 => if fitB s i r then T (r * 9) else seqFrom s i (r + 1) c
def seqB (s : ByteArray) (i : Nat) : Int := seqFrom s i 0 9
theorem seqFrom_eq (s : ByteArray) (i : Nat) (n : Int) (h : SeqIs s i n) : ∀ c r, r + c = 9 → (∀ q, q < r → ¬ Fit s i q) → seqFrom s i r c = n := by
  intro c
  induction c with
  | zero =>
    intro r hr hq
    rcases h with ⟨r', h1, h2, _, _⟩ | ⟨_, h2⟩
    · exact absurd h2 (hq r' (by omega))
    · exact h2.symm
  | succ c ih =>
    intro r hr hq
    unfold seqFrom
    by_cases hf : fitB s i r = true
    · rw [if_pos hf]
      have hF := (fitB_iff s i r).1 hf
      rcases h with ⟨r', h1, h2, h3, h4⟩ | ⟨h1, _⟩
      · have e : r' = r := by
          by_cases a : r' < r
          · exact absurd h2 (hq r' a)
          · by_cases b : r < r'
            · exact absurd hF (h3 r b)
            · omega
        rw [h4, e]
      · exact absurd hF (h1 r (by omega))
    · rw [if_neg hf]
      refine ih (r + 1) (by omega) fun q hq' => ?_
      by_cases e : q = r
      · rw [e]; exact fun x => hf ((fitB_iff s i r).2 x)
      · exact hq q (by omega)
theorem seq_eq {s : ByteArray} {i : Nat} {n : Int} (h : SeqIs s i n) : n = seqB s i := (seqFrom_eq s i n h 9 0 rfl (fun q hq => by omega)).symm
/-- Check, computed: with so many steps. -/
def chkF (s : ByteArray) : Nat → Nat → Int × Int
  | 0, i => (10, i)
  | k + 1, i => if s.size ≤ i then (0, s.size) else if seqB s i = 0 then (10, i) else chkF s k (i + (seqB s i).toNat)
def chkB (s : ByteArray) : Int × Int := chkF s (s.size + 1) 0
theorem chk_step (s : ByteArray) (j k : Nat) (n : Int) (h : SeqIs s j n) (hz : n ≠ 0) : j + n.toNat ≤ s.size ∧ 1 ≤ n.toNat ∧ chkF s (k + 1) j = chkF s k (j + n.toNat) := by
  have e := seq_eq h
  have hb : 1 ≤ n ∧ (j : Int) + n ≤ s.size := by
    rcases h with ⟨r, hr, hf, _, rfl⟩ | ⟨_, h2⟩
    · have : 1 ≤ T (r * 9) ∧ T (r * 9) ≤ 4 := T_r ⟨r, hr⟩
      exact ⟨this.1, hf.1⟩
    · exact absurd h2 hz
  refine ⟨by omega, by omega, ?_⟩
  rw [chkF, if_neg (by omega), ← e, if_neg hz]
theorem to_chk {s : ByteArray} {j : Nat} (h : To s j) : j ≤ s.size ∧ ∃ t, t ≤ j ∧ ∀ k, chkF s (k + t) 0 = chkF s k j := by
  induction h with
  | zero => exact ⟨Nat.zero_le _, 0, Nat.le_refl _, fun k => rfl⟩
  | @step j n h1 h2 h3 ih =>
    obtain ⟨_, t, ht, hk⟩ := ih
    have hs := fun k => chk_step s j k n h2 h3
    refine ⟨(hs 0).1, t + 1, by have := (hs 0).2.1; omega, fun k => ?_⟩
    rw [show k + (t + 1) = (k + 1) + t by omega, hk (k + 1), (hs k).2.2]
theorem chk_eq {s : ByteArray} {e a : Int} (h : ChkIs s e a) : (e, a) = chkB s := by
  obtain ⟨j, hj, h⟩ := h
  obtain ⟨hl, t, ht, hk⟩ := to_chk hj
  unfold chkB
  rw [show s.size + 1 = (s.size - t + 1) + t by omega, hk, chkF]
  rcases h with ⟨rfl, h2, rfl⟩ | ⟨rfl, h2, h3, rfl⟩
  · rw [if_pos (by omega)]
  · rw [if_neg (by omega), ← seq_eq h2, if_pos rfl]
theorem check_any (s : ByteArray) (hs : s.size ≤ 140737488355328) (w : World) (hT : Tab w) (hw : 0 < w.heap.size) :
    Calls Tryd.prog 34 #[.string s] w fun en w' => en = .returned (.tuple #[.int .i64 (chkB s).1, .int .i64 (chkB s).2]) ∧ Drawn0 w w' := by
  refine (chk_any s hs w hT hw).mono ?_
  rintro en w' ⟨e, a, rfl, h, hb⟩
  have := chk_eq h
  rw [← this]
  exact ⟨rfl, hb⟩
/-- The table lies in the world, for good. -/
structure TabW (w : World) : Prop where
  tab : Tab w
  pos : 0 < w.heap.size
theorem TabW.at {w w' : World} (h : TabW w) (hb : Below w.heap.size w w') : TabW w' := ⟨h.tab.below hb h.pos, Nat.lt_of_lt_of_le h.pos hb.size⟩
theorem TabW.of {w : World} (h : laidMetH Tryd.prog [("roster/rosterref01.rows", Rows.laid_roster_rosterref01_rows)] w) : TabW w :=
  have ht : Tab w := fun i hi => table_cell h i hi
  ⟨ht, World.block_lt_of_cell? w _ (ht 0 (by decide))⟩
end Go.Proofs.YtaimjacpenofpaaDoor.W
