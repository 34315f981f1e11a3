/- Walk of (*scanner).bounded: the header at a place, its content within the stretch; or a panic that bears the error and its place. -/
import Derived.Test.YtbgmnfkfbiemaaaBHd
namespace Go.Proofs.Ytbgmnfkfbiemaaa.W
open Go.RowKit
set_option linter.unusedVariables false
set_option linter.unusedSimpArgs false

section
variable (g : Nat) (s : ByteArray) (p e d : Int) (w : World) (h0 : 0 ≤ p) (he : e ≤ (s.size : Int)) (hs : s.size ≤ 140737488351232) (hc : w.cell? ⟨g, 0, none⟩ = some (.string s)) (hg : g < w.heap.size)
include h0 he hs hc hg
theorem header_err {c q : Int} (hr : hdr s p e d = .error (c, q)) :
    Calls Try.prog 33 #[.pointer (some ⟨g, 0, none⟩), .int .i64 p, .int .i64 e, .int .i64 d] w fun en w' => en = .panicked [{ v := .iface 61 (.agg #[.int .i64 c, .int .i64 q]), recovered := false }] ∧ Below w.heap.size w w' :=
  (header_any g s p e d w h0 he hs hc hg).mono fun en w' h => by unfold HdrEnd at h; rw [hr] at h; exact h
theorem header_ok {h : Hd} (hr : hdr s p e d = .ok h) :
    Calls Try.prog 33 #[.pointer (some ⟨g, 0, none⟩), .int .i64 p, .int .i64 e, .int .i64 d] w fun en w' =>
      en = .returned (.agg #[.int .i64 h.cls, .bool h.made, .int .i64 h.tag, .int .i64 h.len, .int .i64 h.size]) ∧ Below w.heap.size w w' :=
  (header_any g s p e d w h0 he hs hc hg).mono fun en w' h => by unfold HdrEnd at h; rw [hr] at h; exact h
end

theorem bounded_err (g : Nat) (s : ByteArray) (p e d : Int) (w : World) (h0 : 0 ≤ p) (he : e ≤ (s.size : Int)) (hs : s.size ≤ 140737488351232) (hc : w.cell? ⟨g, 0, none⟩ = some (.string s)) (hg : g < w.heap.size)
    {c q : Int} (hr : hdr s p e d = .error (c, q)) :
    Calls Try.prog 29 #[.pointer (some ⟨g, 0, none⟩), .int .i64 p, .int .i64 e, .int .i64 d] w fun en w' => HdrEnd (bnd s p e d) w.heap.size w en w' := by
  have HR : Hid (bnd s p e d = .error (c, q)) := by unfold Hid bnd; rw [hr]
  have H := Lib.hid hr
  clear hr
  go_enter Try.func29, Try.ntmps29
  go_wp2_with (go_at_call 33; refine (header_err g s p e d _ h0 he hs ?_ ?_ H.out).mono ?_; (exact (World.cell?_alloc_lt w _ ⟨g, 0, none⟩ hg).trans hc); (simp; omega); rintro en w1 ⟨rfl, hb⟩)
  exact ⟨rfl, HdrEnd.err HR.out (((Below.refl _ _).alloc (Nat.le_refl _) _).trans (hb.mono (by simp)))⟩

set_option maxRecDepth 100000 in
theorem bounded_ok (g : Nat) (s : ByteArray) (p e d : Int) (w : World) (h0 : 0 ≤ p) (he : e ≤ (s.size : Int)) (hs : s.size ≤ 140737488351232) (hc : w.cell? ⟨g, 0, none⟩ = some (.string s)) (hg : g < w.heap.size)
    {h : Hd} (hr : hdr s p e d = .ok h) :
    Calls Try.prog 29 #[.pointer (some ⟨g, 0, none⟩), .int .i64 p, .int .i64 e, .int .i64 d] w fun en w' => HdrEnd (bnd s p e d) w.heap.size w en w' := by
  have HD : Hid (bnd s p e d = if e - p - h.size < h.len then .error (miss d, e) else .ok h) := by unfold Hid bnd; rw [hr]
  obtain ⟨k1, k2, k3, k4, k5, k6, k7⟩ := hdr_ok hr
  clear k7
  have H := Lib.hid hr
  clear hr
  go_enter Try.func29, Try.ntmps29
  go_wp2_with fail
  refine (header_ok g s p e d _ h0 he hs ?_ ?_ H.out).mono ?_
  · exact (World.cell?_alloc_lt w _ ⟨g, 0, none⟩ hg).trans hc
  · simp; omega
  rintro en w1 ⟨rfl, hb⟩
  have z1 : w.heap.size < w1.heap.size := by have := hb.size; simp at this; omega
  have m0 := (At.new w 65 #[.int .i64 0, .bool false, .int .i64 0, .int .i64 0, .int .i64 0]).below hb (by simp)
  have B1 := ((Below.refl _ _).alloc (Nat.le_refl _) _).trans (hb.mono (by simp))
  clear hb
  have a0 := (m0.cell 0).trans rfl
  have a1 := (m0.cell 1).trans rfl
  have a2 := (m0.cell 2).trans rfl
  have a3 := (m0.cell 3).trans rfl
  have a4 := (m0.cell 4).trans rfl
  have e0 := m0.free 0
  have e1 := m0.free 1
  have e2 := m0.free 2
  have e3 := m0.free 3
  have e4 := m0.free 4
  go_wp2_with (go_at_call 34; refine (missing_any d _).mono ?_; rintro e w' ⟨rfl, rfl⟩)
  · have hr2 : bnd s p e d = .error (miss d, e) := by rw [HD.out, if_pos (by assumption)]
    exact ⟨rfl, HdrEnd.err hr2 (B1.alloc (by omega) _)⟩
  · have hr2 : bnd s p e d = .ok h := by rw [HD.out, if_neg (by omega)]
    refine bodyPost_ret (v := hdV h) ?_ rfl (HdrEnd.ok hr2 ?_)
    · simp [results, Try.results29, go_sem, a0, a1, a2, a3, a4, hdV, z1]
    · exact (((((B1.setCell (by simp) _).setCell (by simp) _).setCell (by simp) _).setCell (by simp) _).setCell (by simp) _).alloc (by simp; omega) _

/-- THE READER OF A HEADER WHOSE CONTENT IS THERE. -/
theorem bounded_any (g : Nat) (s : ByteArray) (p e d : Int) (w : World) (h0 : 0 ≤ p) (he : e ≤ (s.size : Int)) (hs : s.size ≤ 140737488351232) (hc : w.cell? ⟨g, 0, none⟩ = some (.string s)) (hg : g < w.heap.size) :
    Calls Try.prog 29 #[.pointer (some ⟨g, 0, none⟩), .int .i64 p, .int .i64 e, .int .i64 d] w fun en w' => HdrEnd (bnd s p e d) w.heap.size w en w' := by
  cases hr : hdr s p e d with
  | error x => obtain ⟨c, q⟩ := x; exact bounded_err g s p e d w h0 he hs hc hg hr
  | ok h => exact bounded_ok g s p e d w h0 he hs hc hg hr

section
variable (g : Nat) (s : ByteArray) (p e d : Int) (w : World) (h0 : 0 ≤ p) (he : e ≤ (s.size : Int)) (hs : s.size ≤ 140737488351232) (hc : w.cell? ⟨g, 0, none⟩ = some (.string s)) (hg : g < w.heap.size)
include h0 he hs hc hg
theorem bound_err {c q : Int} (hr : bnd s p e d = .error (c, q)) :
    Calls Try.prog 29 #[.pointer (some ⟨g, 0, none⟩), .int .i64 p, .int .i64 e, .int .i64 d] w fun en w' => en = .panicked [{ v := .iface 61 (.agg #[.int .i64 c, .int .i64 q]), recovered := false }] ∧ Below w.heap.size w w' :=
  (bounded_any g s p e d w h0 he hs hc hg).mono fun en w' h => by unfold HdrEnd at h; rw [hr] at h; exact h
theorem bound_ok {h : Hd} (hr : bnd s p e d = .ok h) :
    Calls Try.prog 29 #[.pointer (some ⟨g, 0, none⟩), .int .i64 p, .int .i64 e, .int .i64 d] w fun en w' =>
      en = .returned (.agg #[.int .i64 h.cls, .bool h.made, .int .i64 h.tag, .int .i64 h.len, .int .i64 h.size]) ∧ Below w.heap.size w w' :=
  (bounded_any g s p e d w h0 he hs hc hg).mono fun en w' h => by unfold HdrEnd at h; rw [hr] at h; exact h
end
end Go.Proofs.Ytbgmnfkfbiemaaa.W
