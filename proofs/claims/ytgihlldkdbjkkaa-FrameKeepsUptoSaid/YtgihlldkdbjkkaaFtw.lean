/- What a Feed leaves alone, told by types; a text's bytes as a slice. -/
import Derived.Test.YtgihlldkdbjkkaaFd3
namespace Go.Proofs.Ytgihlldkdbjkkaa.W
open Go.RowKit Go.Proofs.YtgihlldkdbjkkaaW.PrintWords Go.Proofs.YtgihlldkdbjkkaaW.PrintLast
set_option linter.unusedVariables false
set_option linter.unusedSimpArgs false

theorem At.typed {w : World} {a b : Nat} {s t : TypeId} {cs ds : Array Value} (h : At w a s cs) (k : w.heap[b]? = some (.cells ds t (0, 0))) (hne : s ≠ t) : a ≠ b := h.ne (show At w b t ds from k) hne
theorem held_typed {w : World} {B : Nat} {ok : Nat → Prop} {v : Value} {ys : List Int} (hv : Kd.R (Kd.int .u8) 5 w B ok v ys) {b : Nat} (h : v.ownBlock = some b) : B ≤ b ∧ b < w.heap.size ∧ ∃ cells, w.heap[b]? = some (.cells cells 5 (0, 0)) := by
  obtain ⟨_, h1, h2, q, hq, cells, hc⟩ := (Kd.R_bound hv).1 b h
  have : q = 5 := by
    rcases List.mem_cons.1 hq with h | h
    · exact h
    · exact absurd h (by show q ∉ ([] : List Nat); simp)
  subst this
  exact ⟨h1, h2, cells, hc⟩
theorem Two.keep {w w' : World} {B g b : Nat} {t : TypeId} {cs : Array Value} {v : Value} {limit given err : Int} {H : ByteArray} (k : Two w w' g v.ownBlock) (hF : FrAt w B g v limit H given err) (h : At w b t cs) (h1 : t ≠ 44) (h2 : t ≠ 5) : At w' b t cs := by
  refine k.at h (h.ne hF.mem h1) (fun e => ?_)
  obtain ⟨_, _, cells, hc⟩ := held_typed hF.row e.symm
  exact h.typed hc h2 rfl
theorem Two.over {α : Type} {d : Kd α} {e base : Nat} {ok : Nat → Prop} {u : Value} {xs : List α} {w w' : World} {B g : Nat} {v : Value} {limit given err : Int} {H : ByteArray} (k : Two w w' g v.ownBlock) (hF : FrAt w B g v limit H given err) (h : d.R e w base ok u xs)
    (ht : ∀ q, q ∈ e :: d.E → q ≠ 44 ∧ q ≠ 5) : d.R e w' base ok u xs := by
  refine Kd.R_mono (Kd.R_move (Kd.R_bound h) (fun b hb => ?_)) (fun _ hk => hk.1)
  obtain ⟨_, _, hl, q, hq, cells, hc⟩ := hb
  refine k.block b hl (fun e => ?_) (fun e => ?_)
  · subst e
    exact (At.ne (show At w b q cells from hc) hF.mem (ht q hq).1) rfl
  · obtain ⟨_, _, cells2, hc2⟩ := held_typed hF.row e.symm
    exact (At.ne (show At w b q cells from hc) (show At w b 5 cells2 from hc2) (ht q hq).2) rfl
theorem Two.base {w w' w0 : World} {B0 B g : Nat} {v : Value} {limit given err : Int} {H : ByteArray} (k : Two w w' g v.ownBlock) (hF : FrAt w B g v limit H given err) (h : Below B0 w0 w) (hB : B0 ≤ w.heap.size) (hg : B0 ≤ g) (hb : B0 ≤ B) : Below B0 w0 w' :=
  k.far h hB hg (fun b e => by have := (held_typed hF.row e).1; omega)
/-- The framer, where rows of another type, or blocks of another, have been written. -/
theorem FrAt.grown {w w' : World} {B g : Nat} {v : Value} {limit given err : Int} {H : ByteArray} (h : FrAt w B g v limit H given err) {α : Type} {d : Kd α} {e base : Nat} {ok : Nat → Prop} {u : Value} {xs : List α} (hu : d.R e w base ok u xs) (h1 : e ≠ 44) (h2 : e ≠ 5) (hg : w.grownBy w' u.ownBlock) : FrAt w' B g v limit H given err := by
  refine ⟨(hg.block g h.mem.lt (Kd.R_ne hu h.mem h1)).trans h.mem, Kd.R_over h.row hu (fun q hq => ?_) hg⟩
  rcases List.mem_cons.1 hq with h | h
  · rw [h]; exact Ne.symm h2
  · exact absurd h (by show q ∉ ([] : List Nat); simp)
theorem str_conv (s : ByteArray) (W : World) : (convert 9 33 (.string s)).run Try.prog W = .ok (.slice (some ⟨W.heap.size, 0, none⟩) s.size (grownCap W s.size 0 5)) (Lib.bytesWorld W 5 s) :=
  print_bytes (P := Try.prog) 9 33 5 Try.underlying9 Try.underlying33 Try.underlying5 s W
theorem str_reads (W : World) (s : ByteArray) (hs : s.size ≤ 9223372036854775807) : Kd.C (Kd.int .u8) (Lib.bytesWorld W 5 s) (some ⟨W.heap.size, 0, none⟩) s.size (numsOf s) :=
  Kd.C_of_reads (d := (0 : Int)) (h1 := fun _ => rfl) (bytes_reads W 5 s hs)
theorem str_below (W : World) (s : ByteArray) : Below W.heap.size W (Lib.bytesWorld W 5 s) := bytes_below (Below.refl _ _) (Nat.le_refl _) 5 s
end Go.Proofs.Ytgihlldkdbjkkaa.W
