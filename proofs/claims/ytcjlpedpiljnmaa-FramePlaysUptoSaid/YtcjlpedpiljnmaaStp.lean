/- Walk of the statements' own step: one step over a framer and the document's; it comes to true. -/
import Derived.Test.YtcjlpedpiljnmaaFr
import Derived.Test.YtcjlpedpiljnmaaFtw
namespace Go.Proofs.Ytcjlpedpiljnmaa.W
open Go.RowKit Go.Proofs.YtcjlpedpiljnmaaW.PrintWords Go.Proofs.YtcjlpedpiljnmaaW.PrintLast Go.Proofs.Ytcjlpedpiljnmaa.GP
set_option linter.unusedVariables false
set_option linter.unusedSimpArgs false

/-- The block of a '[]byte(s)': its cells, and the mark behind them. -/
def AtM (w : World) (b : Nat) (cur : Array Value) : Prop := w.heap[b]? = some (.cells cur 5 (cur.size, cur.size + 1))
theorem AtM.lt {w : World} {b : Nat} {cur : Array Value} (h : AtM w b cur) : b < w.heap.size := lt_of_block h
theorem AtM.cell {w : World} {b : Nat} {cur : Array Value} (h : AtM w b cur) (i : Nat) : w.cell? ⟨b, i, none⟩ = cur[i]? := by
  unfold AtM at h
  simp [World.cell?, h]
theorem AtM.free {w : World} {b : Nat} {cur : Array Value} (h : AtM w b cur) (i : Nat) (hi : i < cur.size) : w.frozen? ⟨b, i, none⟩ = false := by
  unfold AtM at h
  simp [World.frozen?, h]
  omega
theorem AtM.set {w : World} {b : Nat} {cur : Array Value} (h : AtM w b cur) (i : Nat) (u : Value) : AtM (w.setCell ⟨b, i, none⟩ u) b (cur.setIfInBounds i u) := by
  unfold AtM at h ⊢
  simp [World.setCell, Array.getElem?_modify, h]
theorem AtM.new (w : World) (s : ByteArray) : AtM (Lib.bytesWorld w 5 s) w.heap.size (Lib.bytesCells w 5 s) := Lib.bytesWorld_at_new w 5 s
/-- It reads as these numbers. -/
def Bys (cur : Array Value) (xs : List Int) : Prop := xs.length ≤ cur.size ∧ ∀ i, i < xs.length → cur[i]? = some (.int .u8 (xs.getD i 0))
theorem AtM.reads {w : World} {b : Nat} {cur : Array Value} {xs : List Int} (h : AtM w b cur) (hx : Bys cur xs) (hm : xs.length ≤ 9223372036854775807) (n : Nat) (hn : n ≤ xs.length) : Kd.C (Kd.int .u8) w (some ⟨b, 0, none⟩) n (xs.take n) := by
  refine Kd.C_of_reads (enc := Value.int .u8) (d := (0 : Int)) (h1 := fun _ => rfl) ⟨by rw [List.length_take]; omega, by omega, fun _ => ⟨_, rfl, fun j hj => ?_⟩⟩
  rw [add_plain, h.cell j, hx.2 j (by omega)]
  simp [List.getD_eq_getElem?_getD, List.getElem?_take, hj]
theorem Bys.new (w : World) (s : ByteArray) : Bys (Lib.bytesCells w 5 s) (numsOf s) := by
  have hsz : s.size ≤ (Lib.bytesCells w 5 s).size := by simp [Lib.bytesCells]
  refine ⟨by rw [nums_len]; exact hsz, fun i hi => ?_⟩
  rw [nums_len] at hi
  have h := Lib.bytesWorld_cell w 5 s i hi
  rw [(AtM.new w s).cell i] at h
  rw [h]
  congr 2
  unfold numsOf
  have hl : i < s.data.toList.length := by rw [data_length]; exact hi
  simp [List.getD_eq_getElem?_getD, List.getElem?_eq_getElem hl]

/-- Three blocks that a call may write. -/
structure Tri (w w' : World) (g gr : Nat) (o : Option Nat) : Prop where
  os : w'.os = w.os
  tape : w'.tape = w.tape
  output : w'.output = w.output
  size : w.heap.size ≤ w'.heap.size
  block : ∀ i, i < w.heap.size → i ≠ g → i ≠ gr → some i ≠ o → w'.heap[i]? = w.heap[i]?
theorem Tri.below {w w1 : World} {g gr : Nat} {o : Option Nat} (k : Below w.heap.size w w1) : Tri w w1 g gr o := ⟨k.os, k.tape, k.output, k.size, fun i hi _ _ _ => k.block i hi⟩
theorem Tri.and {w w1 w2 : World} {g gr : Nat} {o : Option Nat} (h : Tri w w1 g gr o) (hos : w2.os = w1.os) (ht : w2.tape = w1.tape) (ho : w2.output = w1.output) (hz : w1.heap.size ≤ w2.heap.size)
    (hb : ∀ i, i < w.heap.size → i ≠ g → i ≠ gr → some i ≠ o → w2.heap[i]? = w1.heap[i]?) : Tri w w2 g gr o :=
  ⟨hos.trans h.os, ht.trans h.tape, ho.trans h.output, Nat.le_trans h.size hz, fun i hi h1 h2 h3 => (hb i hi h1 h2 h3).trans (h.block i hi h1 h2 h3)⟩

/-- A framer and the document's, to which the same has come. -/
structure Both (w : World) (B g gr : Nat) (v : Value) (limit : Int) (pre : ByteArray) : Prop where
  fr : FrSt w B g v limit pre
  rf : RfAt w gr limit pre
theorem Both.below {w w' : World} {B g gr : Nat} {v : Value} {limit : Int} {pre : ByteArray} (h : Both w B g gr v limit pre) (hb : Below w.heap.size w w') : Both w' B g gr v limit pre :=
  ⟨h.fr.at hb, h.rf.below hb h.rf.lt⟩
def StepEnd (w : World) (B g gr : Nat) (v : Value) (limit : Int) (pre chunk : ByteArray) (en : Ending) (w' : World) : Prop :=
  ∃ v' pre', en = .returned (.bool true) ∧ Both w' B g gr v' limit pre' ∧ pre'.size ≤ pre.size + chunk.size ∧ (v'.ownBlock = none ∨ v'.ownBlock = v.ownBlock ∨ ∃ b, v'.ownBlock = some b ∧ w.heap.size ≤ b) ∧ Tri w w' g gr v.ownBlock
def spare : ByteArray := ⟨#[48, 1, 7, 49, 32, 97, 110, 100, 32, 109, 111, 114, 101]⟩

set_option maxRecDepth 100000 in
set_option maxHeartbeats 4000000 in
theorem step_other (w : World) (B g gr : Nat) (v : Value) (limit kind : Int) (pre chunk : ByteArray) (h : Both w B g gr v limit pre) (h1 : kind ≠ 1) (h2 : kind ≠ 2) (h3 : kind ≠ 3) (h4 : kind ≠ 4) :
    Calls Try.prog 25 #[.pointer (some ⟨g, 0, none⟩), .pointer (some ⟨gr, 0, none⟩), .agg #[.int .i64 kind, .string chunk]] w (StepEnd w B g gr v limit pre chunk) := by
  have e1 : (kind == 1) = false := by simp [h1]
  have e2 : (kind == 2) = false := by simp [h2]
  have e3 : (kind == 3) = false := by simp [h3]
  have e4 : (kind == 4) = false := by simp [h4]
  have H := Lib.hid h
  clear h1 h2 h3 h4 h
  go_enter Try.func25, Try.ntmps25
  go_wp2_with fail
  go_ret
  exact ⟨v, pre, rfl, H.out.below ((Below.refl _ _).alloc (Nat.le_refl _) _), by omega, .inr (.inl rfl), Tri.below ((Below.refl _ _).alloc (Nat.le_refl _) _)⟩
set_option maxRecDepth 100000 in
set_option maxHeartbeats 4000000 in
theorem step_held (w : World) (B g gr : Nat) (v : Value) (limit : Int) (pre chunk : ByteArray) (h : Both w B g gr v limit pre) (hs : pre.size ≤ 16777216) :
    Calls Try.prog 25 #[.pointer (some ⟨g, 0, none⟩), .pointer (some ⟨gr, 0, none⟩), .agg #[.int .i64 2, .string chunk]] w (StepEnd w B g gr v limit pre chunk) := by
  have bA : Below w.heap.size w (w.alloc (.cells #[.int .i64 2, .string chunk] 46)) := (Below.refl _ _).alloc (Nat.le_refl _) _
  have hA := h.below bA
  have HA := Lib.hid hA
  have BA := Lib.hid bA
  obtain ⟨n, hn⟩ : ∃ n : Int, n = ((keptS pre (cutAt limit pre 0)).size : Int) := ⟨_, rfl⟩
  have HN := Lib.hid hn
  have e : (n == n) = true := beq_self_eq_true _
  clear hA bA h hn
  go_enter Try.func25, Try.ntmps25
  go_wp2_with fail
  refine (Held_st _ B g v limit pre HA.out.fr).mono ?_
  rintro en w1 ⟨rfl, rfl⟩
  rw [← HN.out]
  go_wp2_with fail
  refine (RHeld_any _ gr limit pre HA.out.rf hs).mono ?_
  rintro en w1 ⟨rfl, b1⟩
  rw [← HN.out]
  go_wp2_with fail
  go_ret
  exact ⟨v, pre, rfl, HA.out.below b1, by omega, .inr (.inl rfl), Tri.below (BA.out.trans (b1.mono BA.out.size))⟩
set_option maxRecDepth 100000 in
set_option maxHeartbeats 4000000 in
theorem step_need (w : World) (B g gr : Nat) (v : Value) (limit : Int) (pre chunk : ByteArray) (h : Both w B g gr v limit pre) (hs : pre.size ≤ 16777216) :
    Calls Try.prog 25 #[.pointer (some ⟨g, 0, none⟩), .pointer (some ⟨gr, 0, none⟩), .agg #[.int .i64 3, .string chunk]] w (StepEnd w B g gr v limit pre chunk) := by
  have bA : Below w.heap.size w (w.alloc (.cells #[.int .i64 3, .string chunk] 46)) := (Below.refl _ _).alloc (Nat.le_refl _) _
  have hA := h.below bA
  have HA := Lib.hid hA
  have BA := Lib.hid bA
  obtain ⟨n, hn⟩ : ∃ n : Int, n = (if (cutAt limit pre 0).2.2 = 0 then needS limit (keptS pre (cutAt limit pre 0)) else 0) := ⟨_, rfl⟩
  have HN := Lib.hid hn
  have e : (n == n) = true := beq_self_eq_true _
  clear hA bA h hn
  go_enter Try.func25, Try.ntmps25
  go_wp2_with fail
  refine (Need_st _ B g v limit pre HA.out.fr hs).mono ?_
  rintro en w1 ⟨rfl, b1⟩
  have hA1 := HA.out.below b1
  have BA1 := BA.out.trans (b1.mono BA.out.size)
  have HA1 := Lib.hid hA1
  have HB1 := Lib.hid BA1
  rw [← HN.out]
  clear b1 hA1 BA1
  go_wp2_with fail
  refine (RNeed_any _ gr limit pre HA1.out.rf hs).mono ?_
  rintro en w2 ⟨rfl, b2⟩
  rw [← HN.out]
  go_wp2_with fail
  go_ret
  exact ⟨v, pre, rfl, HA1.out.below b2, by omega, .inr (.inl rfl), Tri.below (HB1.out.trans (b2.mono HB1.out.size))⟩
set_option maxRecDepth 100000 in
set_option maxHeartbeats 4000000 in
theorem step_fault (w : World) (B g gr : Nat) (v : Value) (limit : Int) (pre chunk : ByteArray) (h : Both w B g gr v limit pre) (hs : pre.size ≤ 16777216) :
    Calls Try.prog 25 #[.pointer (some ⟨g, 0, none⟩), .pointer (some ⟨gr, 0, none⟩), .agg #[.int .i64 4, .string chunk]] w (StepEnd w B g gr v limit pre chunk) := by
  have bA : Below w.heap.size w (w.alloc (.cells #[.int .i64 4, .string chunk] 46)) := (Below.refl _ _).alloc (Nat.le_refl _) _
  have hA := h.below bA
  have HA := Lib.hid hA
  have BA := Lib.hid bA
  obtain ⟨n, hn⟩ : ∃ n : Int, n = (if (cutAt limit pre 0).2.2 = 0 then 0 else (cutAt limit pre 0).2.1) := ⟨_, rfl⟩
  obtain ⟨er, her⟩ : ∃ er : Int, er = (cutAt limit pre 0).2.2 := ⟨_, rfl⟩
  have HN := Lib.hid hn
  have HER := Lib.hid her
  have e : (n == n) = true := beq_self_eq_true _
  have e2 : (er == er) = true := beq_self_eq_true _
  clear hA bA h hn her
  go_enter Try.func25, Try.ntmps25
  go_wp2_with fail
  refine (Fault_st _ B g v limit pre HA.out.fr).mono ?_
  rintro en w1 ⟨rfl, b1⟩
  have hA1 := HA.out.below b1
  have BA1 := BA.out.trans (b1.mono BA.out.size)
  have HA1 := Lib.hid hA1
  have HB1 := Lib.hid BA1
  rw [← HN.out, ← HER.out]
  clear b1 hA1 BA1
  go_wp2_with fail
  refine (RFault_any _ gr limit pre HA1.out.rf hs).mono ?_
  rintro en w2 ⟨rfl, b2⟩
  rw [← HN.out, ← HER.out]
  go_wp2_with fail
  go_ret
  exact ⟨v, pre, rfl, HA1.out.below b2, by omega, .inr (.inl rfl), Tri.below (HB1.out.trans (b2.mono HB1.out.size))⟩
theorem FrAt.other {w w' : World} {B g b : Nat} {v : Value} {limit given err : Int} {H : ByteArray} {t : TypeId} {cs : Array Value} (h : FrAt w B g v limit H given err) (hb : At w b t cs) (h1 : t ≠ 104) (h2 : t ≠ 5) (hg : w.grownBy w' (some b)) : FrAt w' B g v limit H given err := by
  refine ⟨(hg.block g h.mem.lt (fun e => by injection e with e; exact hb.ne h.mem h1 e.symm)).trans h.mem, ?_⟩
  have hr := Kd.R_types h.row (show w.heap[b]? = _ from hb) (fun q hq => by
    rcases List.mem_cons.1 hq with e | e
    · rw [e]; exact Ne.symm h2
    · exact absurd e (by show q ∉ ([] : List Nat); simp))
  exact Kd.R_mono (Kd.R_grown hr hg (fun k hk e => hk.2 (by injection e))) (fun _ _ => trivial)
theorem spare_size : spare.size = 13 := rfl

end Go.Proofs.Ytcjlpedpiljnmaa.W
