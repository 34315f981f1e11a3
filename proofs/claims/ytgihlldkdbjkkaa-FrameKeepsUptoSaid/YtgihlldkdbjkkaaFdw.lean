/- Words for frame.Framer: what its first six bytes tell; two blocks that a call writes; a copy as one step of a region. -/
import Derived.Test.YtgihlldkdbjkkaaFSp
namespace Go.Proofs.Ytgihlldkdbjkkaa.W
open Go.RowKit Go.Proofs.YtgihlldkdbjkkaaW.PrintWords Go.Proofs.YtgihlldkdbjkkaaW.PrintLast
set_option linter.unusedVariables false
set_option linter.unusedSimpArgs false

theorem infoU8f : (Try.prog.info? 5).map (fun i => (i.zero, i.size, i.bytes)) = some (some (.int .u8 0), 1, 1) := by kernel_rfl
theorem infoU8s : (Try.prog.info? 5).map (·.size) = some 1 := by kernel_rfl
/-- The bytes of a text as numbers. -/
def numsOf (b : ByteArray) : List Int := b.data.toList.map fun x => (x.toNat : Int)
theorem nums_len (b : ByteArray) : (numsOf b).length = b.size := by unfold numsOf; simp
theorem nums_str (b : ByteArray) : strOfNums (numsOf b) = b := by
  apply ByteArray.ext
  show ((numsOf b).map fun n => UInt8.ofNat n.toNat).toArray = b.data
  unfold numsOf
  rw [List.map_map]
  have : ((fun n : Int => UInt8.ofNat n.toNat) ∘ fun x : UInt8 => (x.toNat : Int)) = id := by
    funext x
    simp
  rw [this, List.map_id]
theorem nums_app (a b : ByteArray) : numsOf (a ++ b) = numsOf a ++ numsOf b := by
  unfold numsOf
  rw [ByteArray.data_append, Array.toList_append, List.map_append]
theorem nums_ext (b : ByteArray) (i j : Nat) : numsOf (b.extract i j) = ((numsOf b).take j).drop i := by
  unfold numsOf
  rw [ByteArray.data_extract, Array.toList_extract, List.extract_eq_take_drop, List.map_take, List.map_drop, List.drop_take]
theorem nums_drop (b : ByteArray) (i : Nat) : (numsOf b).drop i = numsOf (b.extract i b.size) := by
  rw [nums_ext, List.take_of_length_le (by rw [nums_len]; exact Nat.le_refl _)]
theorem nums_take (b : ByteArray) (j : Nat) : (numsOf b).take j = numsOf (b.extract 0 j) := by rw [nums_ext, List.drop_zero]
theorem extract_whole (s : ByteArray) : s.extract 0 s.size = s := by
  apply ByteArray.ext
  rw [ByteArray.data_extract]
  exact Array.extract_size
theorem byt_six (b : ByteArray) (m j : Nat) (hm : m ≤ b.size) (h : j < m) : byt (b.extract 0 m) j = byt b j := by
  have := byt_extract b 0 m j (by omega) hm
  simpa using this
theorem numAt_six (b c : ByteArray) : ∀ (n : Nat) (i v : Int), (∀ j : Nat, j < n → byt b (i + j) = byt c (i + j)) → numAt b i n v = numAt c i n v := by
  intro n
  induction n with
  | zero => intro i v h; rfl
  | succ n ih =>
    intro i v h
    have h0 := h 0 (by omega)
    simp only [Int.natCast_zero, Int.add_zero] at h0
    rw [numAt, numAt, h0]
    refine ih (i + 1) _ (fun j hj => ?_)
    have := h (j + 1) (by omega)
    have e : i + ((j + 1 : Nat) : Int) = i + 1 + j := by omega
    rw [e] at this
    exact this
theorem byt_out (b : ByteArray) (i : Nat) (h : b.size ≤ i) : byt b i = 0 := by
  unfold byt
  rw [dif_neg (by simp; omega)]
/-- A header is told by the first six bytes. -/
theorem look_six (limit : Int) (b : ByteArray) (m : Nat) (hm : m = min b.size 6) : lookS limit (b.extract 0 m) = lookS limit b := by
  have hz : (b.extract 0 m).size = m := by rw [ByteArray.size_extract]; omega
  by_cases c0 : b.size = 0
  · unfold lookS; rw [if_pos (by omega), if_pos c0]
  have y0 := byt_six b m 0 (by omega) (by omega)
  simp only [Int.natCast_zero] at y0
  unfold lookS
  rw [if_neg (by omega), if_neg c0, y0]
  by_cases c1 : byt b 0 ≠ 48
  · rw [if_pos c1, if_pos c1]
  rw [if_neg c1, if_neg c1]
  by_cases c2 : b.size = 1
  · rw [if_pos (by omega), if_pos c2]
  have y1 := byt_six b m 1 (by omega) (by omega)
  simp only [Int.natCast_one] at y1
  rw [if_neg (by omega), if_neg c2, y1]
  by_cases c3 : byt b 1 = 128
  · rw [if_pos c3, if_pos c3]
  rw [if_neg c3, if_neg c3]
  by_cases c4 : 132 < byt b 1
  · rw [if_pos c4, if_pos c4]
  rw [if_neg c4, if_neg c4]
  by_cases c5 : byt b 1 < 128
  · rw [if_pos c5, if_pos c5]
  rw [if_neg c5, if_neg c5]
  have e : numAt (b.extract 0 m) 2 (byt b 1 - 128).toNat 0 = numAt b 2 (byt b 1 - 128).toNat 0 := by
    refine numAt_six _ _ _ _ _ (fun j hj => ?_)
    have e2 : ((2 : Int) + j) = ((2 + j : Nat) : Int) := by omega
    rw [e2]
    by_cases hj2 : 2 + j < m
    · exact byt_six b m (2 + j) (by omega) hj2
    · rw [byt_out _ _ (by omega), byt_out _ _ (by omega)]
  rw [e, hz]
  by_cases c6 : byt b 1 - 126 ≤ (b.size : Int) ∧ limit < byt b 1 - 126 + numAt b 2 (byt b 1 - 128).toNat 0
  · rw [if_pos c6, if_pos ⟨by omega, c6.2⟩]
  · rw [if_neg c6, if_neg (fun h => c6 ⟨by omega, h.2⟩)]

/-! Two blocks that a call may write: all others are as they were. -/
structure Two (w w' : World) (g : Nat) (o : Option Nat) : Prop where
  os : w'.os = w.os
  tape : w'.tape = w.tape
  output : w'.output = w.output
  size : w.heap.size ≤ w'.heap.size
  block : ∀ i, i < w.heap.size → i ≠ g → some i ≠ o → w'.heap[i]? = w.heap[i]?
theorem Two.refl (w : World) (g : Nat) (o : Option Nat) : Two w w g o := ⟨rfl, rfl, rfl, Nat.le_refl _, fun _ _ _ _ => rfl⟩
theorem Two.grown {w w1 w2 : World} {g : Nat} {o r : Option Nat} (h : Two w w1 g o) (k : w1.grownBy w2 r) (hr : ∀ b, r = some b → b = g ∨ some b = o ∨ w.heap.size ≤ b) : Two w w2 g o :=
  ⟨k.os.trans h.os, k.tape.trans h.tape, k.output.trans h.output, Nat.le_trans h.size k.size, fun i hi h1 h2 => (k.block i (Nat.lt_of_lt_of_le hi h.size) (fun e => by
    rcases hr i e.symm with h3 | h3 | h3
    · exact h1 h3
    · exact h2 h3
    · omega)).trans (h.block i hi h1 h2)⟩
theorem Two.below {w w1 w2 : World} {g : Nat} {o : Option Nat} (h : Two w w1 g o) (k : Below w1.heap.size w1 w2) : Two w w2 g o :=
  ⟨k.os.trans h.os, k.tape.trans h.tape, k.output.trans h.output, Nat.le_trans h.size k.size, fun i hi h1 h2 => (k.block i (Nat.lt_of_lt_of_le hi h.size)).trans (h.block i hi h1 h2)⟩
theorem Two.set {w w1 : World} {g : Nat} {o : Option Nat} (h : Two w w1 g o) (j : Nat) (u : Value) : Two w (w1.setCell ⟨g, j, none⟩ u) g o :=
  ⟨h.os, h.tape, h.output, by have := h.size; simpa [World.setCell] using this, fun i hi h1 h2 => (Below.heap_setCell w1 ⟨g, j, none⟩ u i h1).trans (h.block i hi h1 h2)⟩
theorem Two.drew {w w1 : World} {g : Nat} {o : Option Nat} (h : Two w w1 g o) : Two w w1.drew g o := ⟨h.os, h.tape, h.output, h.size, h.block⟩
theorem Two.at {w w' : World} {g b : Nat} {o : Option Nat} {t : TypeId} {cs : Array Value} (k : Two w w' g o) (h : At w b t cs) (h1 : b ≠ g) (h2 : some b ≠ o) : At w' b t cs := (k.block b h.lt h1 h2).trans h
theorem Two.row {α : Type} {d : Kd α} {e base : Nat} {ok : Nat → Prop} {v : Value} {xs : List α} {w w' : World} {g : Nat} {o : Option Nat} (k : Two w w' g o) (h : d.R e w base ok v xs) (h1 : ∀ b, ok b → b ≠ g ∧ some b ≠ o) : d.R e w' base ok v xs :=
  Kd.R_step h (fun b hb hl => k.block b hl (h1 b hb).1 (h1 b hb).2)
theorem Two.far {w w' w0 : World} {B g : Nat} {o : Option Nat} (k : Two w w' g o) (h : Below B w0 w) (hB : B ≤ w.heap.size) (hg : B ≤ g) (ho : ∀ b, o = some b → B ≤ b) : Below B w0 w' :=
  ⟨k.os.trans h.os, k.tape.trans h.tape, k.output.trans h.output, Nat.le_trans h.size k.size, fun i hi => (k.block i (by omega) (by omega) (fun e => by have := ho i e.symm; omega)).trans (h.block i hi)⟩
theorem Two.trans {w w1 w2 : World} {g : Nat} {o o1 : Option Nat} (h : Two w w1 g o) (k : Two w1 w2 g o1) (ho : ∀ b, o1 = some b → some b = o ∨ w.heap.size ≤ b) : Two w w2 g o :=
  ⟨k.os.trans h.os, k.tape.trans h.tape, k.output.trans h.output, Nat.le_trans h.size k.size, fun i hi h1 h2 => (k.block i (Nat.lt_of_lt_of_le hi h.size) h1 (fun e => by
    rcases ho i e.symm with h3 | h3
    · exact h2 h3
    · omega)).trans (h.block i hi h1 h2)⟩

/-- A copy into a row of one's own, as one step of a region that draws its order. -/
theorem R_copy_step {P : Program} {α : Type} {ops : Array Oper} {o : Oper} {a : Act} {K : Act → World → Prop} {Q : Exit → Act → World → Prop} {E : Prop} {enc : α → Value} {h1 : ∀ x, (enc x).oneCell' = true} (d : α) {W : World} (base : Nat) (hw : Region.wanted o (yielded ops a.tmps) = true) (s x : Operand) (t t' e : TypeId)
    (ho : o.op = .call { callee := .builtin .copy, args := #[s, x], argTypes := #[t, t'] }) (ht : P.underlying t = some (.slice e)) (hinfo : (P.info? e).map (·.size) = some 1)
    (v : Value) (xs ys : List α) (A : Option Addr) (m c : Nat) (ok : Nat → Prop) (hs : a.eval s = v) (hx : a.eval x = .slice A m c)
    (HO : (Kd.scalar enc h1).R e W base ok v xs) (HR : (Kd.scalar enc h1).C W A m ys)
    (h : ∀ w1, (Kd.scalar enc h1).R e w1 base ok v (ys.take (min m xs.length) ++ xs.drop (min m xs.length)) → W.grownBy w1 v.ownBlock → K (a.put o.dst (.int .i64 ((min m xs.length : Nat) : Int))) w1) :
    if Region.wanted o (yielded ops a.tmps) = true then Oper.wp P o a W K Q else E := by
  rw [if_pos hw]
  have hR := Kd.reads_of_C (enc := enc) (d := d) (h1 := h1) HR
  have hm : ys.length = m := hR.1
  have hown := Kd.own_of_R HO
  have fin : ∀ w1, (Builtin.copy_ #[t, t'] o.type #[v, .slice A m c]).run P W = .ok (goInt ((min m xs.length : Nat) : Int)) w1 → (Kd.scalar enc h1).R e w1 base ok v (ys.take (min m xs.length) ++ xs.drop (min m xs.length)) → W.grownBy w1 v.ownBlock → Oper.wp P o a W K Q := by
    intro w1 hr hrow hg
    unfold Oper.wp execOp
    simp only [ho, resolve, invoke, builtin, Sem.run_bind, Sem.run_pure, Result.andThen_ok, List.map_toArray, List.map_cons, List.map_nil, hs, hx, hr]
    exact h w1 hrow hg
  rcases Nat.eq_zero_or_pos (min m xs.length) with h0 | hp
  · obtain ⟨A', c', hv⟩ := own_slice hown
    refine fin W ?_ (by rw [h0, List.take_zero, List.drop_zero, List.nil_append]; exact HO) (World.grownBy.refl W _)
    rw [h0, hv]
    exact run_copy_none W t t' o.type e A' A xs.length c' m c ht hinfo h0
  · obtain ⟨ad, hA, hc⟩ := hR.2.2 (by omega)
    rcases hown.2 with ⟨_, hx0⟩ | ⟨g, cap, cur, hv, hb, hh, hnc, hcm, hcs, htake⟩
    · omega
    have hcs1 : cur.size = cap := by omega
    have hsrc : ∀ j u, (encs enc (ys.take (min m xs.length)))[j]? = some u → W.cell? (ad.add j) = some u := by
      intro j u hu
      have hj : j < (ys.take (min m xs.length)).length := by
        rcases Nat.lt_or_ge j (ys.take (min m xs.length)).length with h | h
        · exact h
        · rw [List.getElem?_eq_none (by rw [encs_length]; exact h)] at hu
          cases hu
      have hjm : j < min m xs.length := by rw [List.length_take] at hj; omega
      rw [encs_get (d := d) _ j hj] at hu
      rw [hc j (by omega), ← hu]
      simp [List.getD_eq_getElem?_getD, hjm]
    have hkl : (encs enc (ys.take (min m xs.length))).length = min m xs.length := by rw [encs_length, List.length_take]; omega
    have hr := run_copy_cells (P := P) W t t' o.type e g 0 xs.length cap ad m c (encs enc (ys.take (min m xs.length))) ht hinfo (by rw [hkl]) hsrc
      (fun j hj => by rw [cell_of_row W g _ cur e (0, 0) hh]; simp; omega) (fun j _ => blk_frozen hh _) (by intro u hu; simp only [encs, List.mem_map] at hu; obtain ⟨q, _, rfl⟩ := hu; exact h1 q)
    obtain ⟨cur', h3, h4, h5⟩ := setCells_row (encs enc (ys.take (min m xs.length))) 0 W cur hh (by rw [hkl]; omega)
    obtain ⟨s1, s2, s3, s4⟩ := setCells_same g (encs enc (ys.take (min m xs.length))) 0 W
    refine fin _ (by rw [hv, hA, hr, hkl]) (Kd.R_of_own ?_ HO.1) ⟨s1, s2, s3, by rw [s4]; exact Nat.le_refl _, fun k _ hk => setCells_far _ _ k (fun he => hk (by rw [hv, he]; simp [Value.ownBlock]))⟩
    have hln : (ys.take (min m xs.length) ++ xs.drop (min m xs.length)).length = xs.length := by
      rw [List.length_append, List.length_take, List.length_drop]
      omega
    rw [hln]
    refine ⟨by rw [encs_length, hln, Nat.mul_one], .inr ⟨g, cap, cur', hv, hb, h3, hnc, hcm, by rw [h4, hcs], ?_⟩⟩
    rw [h5, List.take_zero, List.nil_append, hkl, Nat.zero_add, encs_append, Nat.mul_one]
    rw [List.take_append, hkl, List.take_of_length_le (by rw [hkl]; omega)]
    congr 1
    have htk : cur.toList.take xs.length = encs enc xs := by rw [← htake, Nat.mul_one]
    have hd : encs enc (xs.drop (min m xs.length)) = (encs enc xs).drop (min m xs.length) := by simp [encs, List.map_drop]
    rw [hd, ← htk, List.drop_take]
end Go.Proofs.Ytgihlldkdbjkkaa.W
