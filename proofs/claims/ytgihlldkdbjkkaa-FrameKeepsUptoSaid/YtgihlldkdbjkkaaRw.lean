/- Words for rows: slices of structs among a law's arguments, opened as one list; the bulk of what is read. No program's walk here. -/
import Derived.Test.YtgihlldkdbjkkaaRows
import Derived.Test.YtgihlldkdbjkkaaWWords
import Derived.ChangeSlices
import Derived.DataElems
import Derived.Lib.SmallJoins
namespace Go.Proofs.Ytgihlldkdbjkkaa.Rw
open Go.ChangeShapes Go.WideShapes Go.Joins Go.Proofs.YtgihlldkdbjkkaaW.PrintWords
set_option linter.unusedVariables false
set_option linter.unusedSimpArgs false

theorem part_le {H : Type} {d : DataW H} {l : List (DataW H)} (h : d ∈ l) : Rows.uptoBulk d ≤ Rows.uptoBulkAll l := by
  induction l with
  | nil => cases h
  | cons x r ih =>
    simp only [Rows.uptoBulkAll]
    cases List.mem_cons.1 h with
    | inl e => subst e; omega
    | inr e => have := ih e; omega
theorem bulk_one {H : Type} {d : DataW H} {l : List (DataW H)} (hk : Rows.uptoSmall H l = true) (h : d ∈ l) : Rows.uptoBulk d ≤ 1048576 :=
  Nat.le_trans (part_le h) (of_decide_eq_true hk)
theorem bulk_str {H : Type} {s : ByteArray} {B : Nat} (h : Rows.uptoBulk (DataW.lit (H := H) (.string s.data.toList)) ≤ B) : s.size ≤ B := by
  simp only [Rows.uptoBulk, Array.length_toList] at h
  have : s.data.size = s.size := rfl
  omega
theorem one_le {H : Type} (d : DataW H) : 1 ≤ Rows.uptoBulk d := by
  cases d with
  | lit l => cases l <;> simp [Rows.uptoBulk]
  | _ => simp [Rows.uptoBulk]
theorem length_le {H : Type} (l : List (DataW H)) : l.length ≤ Rows.uptoBulkAll l := by
  induction l with
  | nil => simp [Rows.uptoBulkAll]
  | cons x r ih => have := one_le x; simp only [Rows.uptoBulkAll, List.length_cons]; omega

theorem slen_le {H : Type} (d : DataW H) : sliceLen d ≤ Rows.uptoBulk d := by
  cases d with
  | slice el sp => have := length_le el; simp only [sliceLen, Rows.uptoBulk]; omega
  | _ => exact Nat.zero_le _

section
variable {H : Type} {enc : TypeId × Value → H} {P : Program} {w : World} {base : Nat} {spare : Nat → Bool} {held : Bool}

theorem rows_list {α : Type} {ok : α → List Value → Prop} {bulk : α → Nat} {sz : Nat} {a : Addr} {n : Nat} {e : TypeId}
    (hel : ∀ cs y, DataW.trod enc P w base spare held n e cs = some y → ∃ x, ok x cs ∧ bulk x ≤ Rows.uptoBulk y.1) :
    ∀ (elems : List (DataW H × List MemPlace)) (k : Nat), (∀ i y, elems[i]? = some y → (w.cells? base (a.add ((k + i) * sz)) sz).bind (DataW.trod enc P w base spare held n e) = some y) →
    ∃ xs : List α, xs.length = elems.length ∧ (xs.map bulk).sum ≤ Rows.uptoBulkAll (elems.map (·.1)) ∧ (∀ x ∈ xs, ∃ c, ok x c) ∧
      ∀ j p, xs[j]? = some p → ∃ c, c.length = sz ∧ ok p c ∧ ∀ i u, c[i]? = some u → w.cell? (a.add ((k + j) * sz + i)) = some u := by
  intro elems
  induction elems with
  | nil => exact fun k _ => ⟨[], rfl, by simp [Rows.uptoBulkAll], by simp, by simp⟩
  | cons y r ih =>
    intro k hk
    obtain ⟨xs, h1, h2, h3, h4⟩ := ih (k + 1) fun i y hi => by
      have := hk (i + 1) y (by simpa using hi)
      rwa [show k + 1 + i = k + (i + 1) by omega]
    have h0 := hk 0 y rfl
    rw [Nat.add_zero, Option.bind_eq_some_iff] at h0
    obtain ⟨cs, hcs, hy⟩ := h0
    obtain ⟨x, hx, hb⟩ := hel cs y hy
    obtain ⟨_, hl, hc⟩ := World.cells?_some hcs
    refine ⟨x :: xs, by simp [h1], ?_, ?_, ?_⟩
    · simp only [List.map_cons, List.sum_cons, Rows.uptoBulkAll]
      omega
    · intro z hz
      rcases List.mem_cons.1 hz with rfl | hz
      · exact ⟨cs, hx⟩
      · exact h3 z hz
    · intro j p hj
      cases j with
      | zero =>
        simp at hj
        subst hj
        refine ⟨cs, hl, hx, fun i u hi => ?_⟩
        have hi' : i < sz := by rw [← hl]; exact (List.getElem?_eq_some_iff.1 hi).1
        rw [Nat.add_zero, ← Addr.add_add, hc i hi', hi]
      | succ j =>
        obtain ⟨c, g1, g2, g3⟩ := h4 j p (by simpa using hj)
        exact ⟨c, g1, g2, fun i u hi => by rw [show k + (j + 1) = k + 1 + j by omega]; exact g3 i u hi⟩

theorem el_str {t : TypeId} {n : Nat} {cs : List Value} {y : DataW H × List MemPlace} (ht : P.underlying t = some .string) (h : DataW.trod enc P w base spare held n t cs = some y) : ∃ x : ByteArray, cs = [.string x] ∧ x.size + 1 ≤ Rows.uptoBulk y.1 := by
  obtain ⟨x, e, rfl, _⟩ := DataW.trod_string ht h
  refine ⟨x, e, ?_⟩
  simp only [Rows.uptoBulk, Array.length_toList, ByteArray.size_data]
  omega
/-- A slice of elements of any cells, opened as one list: what it reads; its bulk. -/
theorem open_rows {α : Type} {ok : α → List Value → Prop} {bulk : α → Nat} {sz : Nat} {t e : TypeId} {a : Option Addr} {len cap : Nat} {d : DataW H} {ps : List MemPlace}
    (ht : P.underlying t = some (.slice e)) (hc : P.cellsOf e = sz)
    (hel : ∀ n cs y, DataW.trod enc P w base spare held n e cs = some y → ∃ x, ok x cs ∧ bulk x ≤ Rows.uptoBulk y.1)
    (h : DataW.Trod enc P w base spare held t (.slice a len cap) d ps) :
    ∃ xs : List α, xs.length = len ∧ len ≤ cap ∧ cap ≤ maxLen ∧ (xs.map bulk).sum + 1 ≤ Rows.uptoBulk d ∧ (∀ x ∈ xs, ∃ c, ok x c) ∧ len + 1 ≤ Rows.uptoBulk d ∧ ReadsRow ok sz w a len xs := by
  obtain ⟨fuel, hf⟩ := h
  rcases DataW.trod_slice ht hf with ⟨hcs, hx⟩ | ⟨a', len', cap', elems, rest, n, _, hcs, hx, hb, hl, hm, hlen, hel', _, _⟩
  · simp [Value.cells] at hcs
    obtain ⟨rfl, rfl, rfl⟩ := hcs
    obtain ⟨rfl, _⟩ := Prod.mk.inj hx
    exact ⟨[], rfl, Nat.le_refl _, Nat.zero_le _, by simp [Rows.uptoBulk], by simp, by simp [Rows.uptoBulk], rfl, by omega, by omega⟩
  · simp [Value.cells] at hcs
    obtain ⟨rfl, rfl, rfl⟩ := hcs
    obtain ⟨rfl, _⟩ := Prod.mk.inj hx
    rw [hc] at hel'
    obtain ⟨xs, h1, h2, h3, h4⟩ := rows_list (a := a') (hel n) elems 0 fun i y hi => by
      have hi' : i < len := by rw [← hlen]; exact (List.getElem?_eq_some_iff.1 hi).1
      rw [Nat.zero_add, hel' i hi', hi]
    have hL := length_le (elems.map (·.1))
    rw [List.length_map] at hL
    refine ⟨xs, h1.trans hlen, hl, hm, ?_, h3, ?_, h1.trans hlen, ?_, fun _ => ⟨a', rfl, ?_⟩⟩
    · simp only [Rows.uptoBulk]
      omega
    · simp only [Rows.uptoBulk]
      omega
    · have : maxLen = 9223372036854775807 := rfl
      omega
    · intro j p hj
      obtain ⟨c, g1, g2, g3⟩ := h4 j p hj
      exact ⟨c, g1, g2, fun i u hi => by have := g3 i u hi; rwa [Nat.zero_add] at this⟩
end
end Go.Proofs.Ytgihlldkdbjkkaa.Rw
