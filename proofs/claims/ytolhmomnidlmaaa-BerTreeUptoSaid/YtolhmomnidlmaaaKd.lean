/- Words for rows of structs: a row's kind seen through a map; the kinds of ber's own structs as tuples. -/
import Derived.Test.YtolhmomnidlmaaaWWords
import Derived.Laws.MakeOwn
namespace Go.Proofs.Ytolhmomnidlmaaa.W
open Go.RowKit Go.Proofs.YtolhmomnidlmaaaW.PrintWords
set_option linter.unusedVariables false
set_option linter.unusedSimpArgs false

theorem reps_map {α β : Type} {R : α → List Value → Prop} {f : β → α} {size : Nat} {xs : List β} {cs : List Value} : Reps (fun x => R (f x)) size xs cs ↔ Reps R size (xs.map f) cs := by
  unfold Reps
  rw [List.length_map]
  refine and_congr Iff.rfl ⟨fun h j p hp => ?_, fun h j p hp => ?_⟩
  · rw [List.getElem?_map] at hp
    obtain ⟨q, hq, rfl⟩ := Option.map_eq_some_iff.1 hp
    exact h j q hq
  · exact h j (f p) (by rw [List.getElem?_map, hp]; rfl)
/-- A row of the call's own, its elements seen through f. -/
theorem R_iso {α β : Type} {d : Kd α} {f : β → α} {e : Nat} {w : World} {base : Nat} {ok : Nat → Prop} {v : Value} {xs : List β} :
    Kd.R (Kd.iso d f) e w base ok v xs ↔ Kd.R d e w base ok v (xs.map f) := by
  unfold Kd.R OwnRow
  refine and_congr Iff.rfl (exists_congr fun inner => ?_)
  rw [List.length_map]
  exact and_congr Iff.rfl (reps_map (R := d.M w base (fun k => ok k ∧ some k ≠ v.ownBlock)) (f := f) (size := d.sz) (xs := xs) (cs := inner))
theorem R_of_map {α β : Type} {d : Kd α} {f : β → α} (g : α → β) (hfg : ∀ x, f (g x) = x) {e : Nat} {w : World} {base : Nat} {ok : Nat → Prop} {v : Value} {xs : List α} (h : Kd.R d e w base ok v xs) :
    Kd.R (Kd.iso d f) e w base ok v (xs.map g) := by
  rw [R_iso, List.map_map]
  have : (f ∘ g) = id := funext hfg
  rw [this, List.map_id]
  exact h
/-- An element: class, made, tag, body. -/
abbrev ElemT := Int × Bool × Int × ByteArray
def kElem : Kd ElemT := Kd.pair (Kd.int .i64) (Kd.pair Kd.bool (Kd.pair (Kd.int .i64) Kd.string))
theorem kElem_mkM (w : World) (base : Nat) (ok : Nat → Prop) (x : ElemT) : kElem.M w base ok x [.int .i64 x.1, .bool x.2.1, .int .i64 x.2.2.1, .string x.2.2.2] :=
  ⟨[.int .i64 x.1], [.bool x.2.1, .int .i64 x.2.2.1, .string x.2.2.2], rfl, rfl, ⟨[.bool x.2.1], [.int .i64 x.2.2.1, .string x.2.2.2], rfl, rfl, ⟨[.int .i64 x.2.2.1], [.string x.2.2.2], rfl, rfl, rfl⟩⟩⟩
/-- A node: depth, class, made, tag, body. -/
abbrev NodeT := Int × Int × Bool × Int × ByteArray
def kNode : Kd NodeT := Kd.pair (Kd.int .i64) (Kd.pair (Kd.int .i64) (Kd.pair Kd.bool (Kd.pair (Kd.int .i64) Kd.string)))
theorem kNode_mkM (w : World) (base : Nat) (ok : Nat → Prop) (x : NodeT) : kNode.M w base ok x [.int .i64 x.1, .int .i64 x.2.1, .bool x.2.2.1, .int .i64 x.2.2.2.1, .string x.2.2.2.2] :=
  ⟨[.int .i64 x.1], [.int .i64 x.2.1, .bool x.2.2.1, .int .i64 x.2.2.2.1, .string x.2.2.2.2], rfl, rfl, ⟨[.int .i64 x.2.1], [.bool x.2.2.1, .int .i64 x.2.2.2.1, .string x.2.2.2.2], rfl, rfl, ⟨[.bool x.2.2.1], [.int .i64 x.2.2.2.1, .string x.2.2.2.2], rfl, rfl, ⟨[.int .i64 x.2.2.2.1], [.string x.2.2.2.2], rfl, rfl, rfl⟩⟩⟩⟩
/-- 'make([]T, 0, c)': an empty row with room. -/
theorem R_made0 {α : Type} (d : Kd α) (W : World) (base : Nat) (e : TypeId) (c : Nat) (z : Array Value) {ok : Nat → Prop} (hbase : base ≤ W.heap.size) (h63 : c ≤ 9223372036854775807) (hok : ok W.heap.size) :
    Kd.R d e (W.alloc (.cells (madeCells z (c * d.sz)) e)) base ok (.slice (some ⟨W.heap.size, 0, none⟩) 0 c) ([] : List α) := by
  refine ⟨fun k hk => ?_, [], World.ownsRow_made W _ c hbase h63 (size_madeCells _ _), by simp, fun j p h => by simp at h⟩
  simp only [Value.ownBlock] at hk
  injection hk with hk
  exact hk ▸ hok
end Go.Proofs.Ytolhmomnidlmaaa.W
