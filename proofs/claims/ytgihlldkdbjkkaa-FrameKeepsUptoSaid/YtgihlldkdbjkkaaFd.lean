/- Walk of (*frame.Framer).Feed: what it gives out and what it keeps. -/
import Derived.Test.YtgihlldkdbjkkaaFdw
import Derived.Test.YtgihlldkdbjkkaaWMore
import Derived.Deep.QuietTactic
import Derived.BigQuiet
import Derived.Deep.RegionWith
import Derived.Deep.CutRange
namespace Go.Proofs.Ytgihlldkdbjkkaa.W
open Go.RowKit Go.Proofs.YtgihlldkdbjkkaaW.PrintWords Go.Proofs.YtgihlldkdbjkkaaW.PrintLast Go.Proofs.YtgihlldkdbjkkaaW.PrintMore
attribute [local go_sem] max2_int min2_int max_two min_two   -- for this text's walks alone
set_option linter.unusedVariables false
set_option linter.unusedSimpArgs false

/-- A framer at g: its limit, the bytes that it holds (in a row of its own), how many it has given out, its error. -/
structure FrAt (w : World) (B g : Nat) (v : Value) (limit : Int) (H : ByteArray) (given err : Int) : Prop where
  mem : At w g 44 #[.int .i64 limit, v, .int .i64 given, .int .i64 err]
  row : Kd.R (Kd.int .u8) 5 w B (fun _ => True) v (numsOf H)
/-- What is held behind a Feed: of what was held and came (KB), by how it is cut (c). -/
def keptS (KB : ByteArray) (c : List ByteArray × Int × Int) : ByteArray := if c.2.2 = 0 then KB.extract c.2.1.toNat KB.size else ⟨#[]⟩

theorem FrAt.at {w w' : World} {B g : Nat} {v : Value} {limit given err : Int} {H : ByteArray} (h : FrAt w B g v limit H given err) (hb : Below w.heap.size w w') : FrAt w' B g v limit H given err :=
  ⟨h.mem.below hb h.mem.lt, Kd.R_below h.row hb⟩

set_option maxRecDepth 100000 in
set_option maxHeartbeats 4000000 in
theorem Feed_bad (w : World) (B g : Nat) (v : Value) (limit given err : Int) (H : ByteArray) (A : Option Addr) (n c : Nat) (h : FrAt w B g v limit H given err) (he : err ≠ 0) :
    Calls Try.prog 6 #[.pointer (some ⟨g, 0, none⟩), .slice A n c] w fun en w' => en = .returned (.tuple #[.slice none 0 0, .int .i64 err]) ∧ Below w.heap.size w w' := by
  have c3 := (h.mem.cell 3).trans rfl
  have hb : (err != 0) = true := by simp [he]
  go_enter Try.func6, Try.ntmps6
  go_wp2_with fail
  go_step3
  go_wp2_with fail
  go_quiet (fail)
  go_wp2_with fail
  rw [Exit.noGoto_ret]
  go_ret2
  exact ⟨rfl, below_draws (Below.refl _ _) _⟩

set_option maxRecDepth 100000 in
set_option maxHeartbeats 8000000 in
theorem Feed_any (w : World) (B g : Nat) (v : Value) (limit given : Int) (H C : ByteArray) (A : Option Addr) (c : Nat) (h : FrAt w B g v limit H given 0) (hC : Kd.C (Kd.int .u8) w A C.size (numsOf C)) (hc : C.size ≤ c)
    (hB : B ≤ w.heap.size) (hs : H.size + C.size ≤ 16777216) (hg0 : 0 ≤ given) (hg1 : given ≤ 1152921504606846976) :
    Calls Try.prog 6 #[.pointer (some ⟨g, 0, none⟩), .slice A C.size c] w fun en w' => ∃ v0 v', en = .returned (.tuple #[v0, .int .i64 (cutAt limit (H ++ C) 0).2.2]) ∧
      Kd.R Kd.string 9 w' w.heap.size (fun _ => True) v0 (cutAt limit (H ++ C) 0).1 ∧
      FrAt w' B g v' limit (keptS (H ++ C) (cutAt limit (H ++ C) 0)) (given + (cutAt limit (H ++ C) 0).2.1) (cutAt limit (H ++ C) 0).2.2 ∧
      (v'.ownBlock = none ∨ v'.ownBlock = v.ownBlock ∨ ∃ b, v'.ownBlock = some b ∧ w.heap.size ≤ b) ∧ Two w w' g v.ownBlock := by
  obtain ⟨KB, hK⟩ : ∃ KB, KB = H ++ C := ⟨_, rfl⟩
  rw [← hK]
  obtain ⟨out, hout⟩ : ∃ out, out = cutAt limit KB 0 := ⟨_, rfl⟩
  rw [← hout]
  have hKz : KB.size = H.size + C.size := by rw [hK]; exact ByteArray.size_append
  have hKn : numsOf KB = numsOf H ++ numsOf C := by rw [hK]; exact nums_app _ _
  have HK := Lib.hid hK
  have HKN := Lib.hid hKn
  have HO := Lib.hid hout
  have zH := nums_len H
  have zC := nums_len C
  obtain ⟨Ah, ch, rfl⟩ := Kd.R_slice h.row
  have c1 := (h.mem.cell 1).trans rfl
  have c3 := (h.mem.cell 3).trans rfl
  have c0 := (h.mem.cell 0).trans rfl
  have f1 := h.mem.free 1
  have lg := h.mem.lt
  have hneg : some g ≠ (Value.slice Ah (numsOf H).length ch).ownBlock := Kd.R_ne h.row h.mem (by decide)
  have HC := Lib.hid hC
  have HNE := Lib.hid hneg
  have HH := Lib.hid h
  have ZH := Lib.hid zH
  have ZC := Lib.hid zC
  have hKle : KB.size ≤ 16777216 := by omega
  clear hK hout hKn zH zC hC hneg h hKz
  have hb0 : ((0 : Int) != 0) = false := rfl
  go_enter Try.func6, Try.ntmps6
  go_wp2_with fail
  go_step3
  go_wp2_with (at_builtin; go_must (refine Kd.R_append_row (w0 := w) (Value.int .u8) (0 : Int) B rfl (.tmp 23) (.tmp 24) 33 5 (.int .u8 0) 1 rfl Try.underlying33 infoU8f rfl (by decide) (.slice Ah (numsOf H).length ch) (numsOf H) (numsOf C) A C.size c (fun _ => True) rfl rfl (fun _ _ => trivial) HH.out.row HC.out (Below.refl _ _) hB ?_ ?_))
  · rw [ZH.out]; omega
  intro v1 w1 hR1 hb1 hg1 hat1
  obtain ⟨A1, k1, rfl⟩ := Kd.R_slice hR1
  rw [← HKN.out, nums_len KB] at hR1 ⊢
  have mem1 : At w1 g 44 #[.int .i64 limit, .slice Ah (numsOf H).length ch, .int .i64 given, .int .i64 0] := (hg1.block g lg HNE.out).trans HH.out.mem
  have T1 := (Two.refl w g (Value.slice Ah (numsOf H).length ch).ownBlock).grown hg1 (fun b hb => .inr (.inl hb.symm))
  have hneg1 : some g ≠ (Value.slice A1 KB.size k1).ownBlock := Kd.R_ne hR1 mem1 (by decide)
  rw [← HKN.out, nums_len KB] at hat1
  generalize hob : (Value.slice Ah (numsOf H).length ch).ownBlock = o at *
  have HOB := Lib.hid hob
  clear hob
  clear c0 c1 c3 f1 lg
  have c1 := (mem1.cell 1).trans rfl
  have f1 := mem1.free 1
  go_wp2_with fail
  have mem2 : At (w1.setCell ⟨g, 1, none⟩ (.slice A1 KB.size k1)) g 44 #[.int .i64 limit, .slice A1 KB.size k1, .int .i64 given, .int .i64 0] := mem1.set 1 _
  have row2 : Kd.R (Kd.int .u8) 5 (w1.setCell ⟨g, 1, none⟩ (.slice A1 KB.size k1)) B (fun _ => True) (.slice A1 KB.size k1) (numsOf KB) := Kd.R_set hR1 mem1 (by decide) 1 _
  have T2 := T1.set 1 (.slice A1 KB.size k1)
  clear mem1 T1 c1 f1 hR1 hb1 hg1
  generalize w1.setCell ⟨g, 1, none⟩ (.slice A1 KB.size k1) = w2 at *
  go_step3
  clear HH HC HK HKN ZH ZC hneg1
  have nK := nums_len KB
  obtain ⟨k1n, k1c⟩ : KB.size ≤ k1 ∧ Kd.C (Kd.int .u8) w2 A1 KB.size (numsOf KB) := by
    obtain ⟨_, q1, q2⟩ := Kd.R_reads' row2
    rw [nK] at q2
    exact ⟨q1, q2⟩
  clear nK k1c
  have HAT := Lib.hid hat1
  clear hat1
  go_upto_block 0 with (fail)
  go_cut [6, 7] from 28 to 84 (fun vo i wx => ∃ (p : Nat) (l : List ByteArray) (e : Int), p ≤ KB.size ∧ i = .int .i64 p ∧ Hid (out = (l, (p : Int), e)) ∧ At wx g 44 #[.int .i64 limit, .slice A1 KB.size k1, .int .i64 given, .int .i64 e] ∧
    Kd.R (Kd.int .u8) 5 wx B (fun _ => True) (.slice A1 KB.size k1) (numsOf KB) ∧ Kd.R Kd.string 9 wx w.heap.size (fun _ => True) vo l ∧ Two w wx g o)
  case rest =>
    obtain ⟨p, l, e, hp, rfl, HE, rM, rH, rO, rT⟩ := hcut
    obtain ⟨Ao, co, rfl⟩ := Kd.R_slice rO
    clear mem2 row2 T2 HO
    have m2 := (rM.cell 2).trans rfl
    have m3 := (rM.cell 3).trans rfl
    have f2 := rM.free 2
    have q0 : (0 : Int) ≤ p := by omega
    have q1 : (p : Int) ≤ 16777216 := by omega
    by_cases he : e = 0
    · subst he
      have heb : ((0 : Int) != 0) = false := rfl
      obtain ⟨rest, hrest⟩ : ∃ rest, rest = KB.extract p KB.size := ⟨_, rfl⟩
      have hrz : rest.size = KB.size - p := by rw [hrest]; simp
      obtain ⟨i0, hi0, hz0, hz1, hz2⟩ := info_parts infoU8f
      obtain ⟨A2, hA2⟩ : ∃ A2, A2 = if k1 = p then A1 else A1.map (·.add (p * 1)) := ⟨_, rfl⟩
      have hcut1 : ∀ W : World, (Instr.slice 33 (.slice A1 KB.size k1) (some (.int .i64 (p : Int))) none none).run Try.prog W = .ok (.slice A2 rest.size (k1 - p)) W := by
        intro W
        have := cut_from 33 5 .i64 Try.underlying33 hi0 1 hz1 A1 KB.size k1 (p : Int) (by omega) (by omega) W
        rw [this, hA2, hrz]
        simp
      have hcut2 : ∀ W : World, (Instr.slice 33 (.slice A1 KB.size k1) none (some (.int .i64 (rest.size : Int))) none).run Try.prog W = .ok (.slice A1 rest.size k1) W := by
        intro W
        have := cut_to 33 5 .i64 Try.underlying33 hi0 A1 KB.size k1 (rest.size : Int) (by omega) (by omega) (by omega) W
        rw [this]
        simp
      have HZ := Lib.hid hrz
      have HRE := Lib.hid hrest
      have HA2 := Lib.hid hA2
      clear hi0 hz0 hz1 hz2 hrz hrest hA2
      go_wp2_with fail
      have rM3 : At (wc.setCell ⟨g, 2, none⟩ (.int .i64 (given + p))) g 44 #[.int .i64 limit, .slice A1 KB.size k1, .int .i64 (given + p), .int .i64 0] := rM.set 2 _
      have rH3 : Kd.R (Kd.int .u8) 5 (wc.setCell ⟨g, 2, none⟩ (.int .i64 (given + p))) B (fun _ => True) (.slice A1 KB.size k1) (numsOf KB) := Kd.R_set rH rM (by decide) 2 _
      have rO3 : Kd.R Kd.string 9 (wc.setCell ⟨g, 2, none⟩ (.int .i64 (given + p))) w.heap.size (fun _ => True) (.slice Ao l.length co) l := Kd.R_set rO rM (by decide) 2 _
      have rT3 : Two w (wc.setCell ⟨g, 2, none⟩ (.int .i64 (given + p))) g o := rT.set 2 _
      clear rM rH rO rT m2 m3 f2
      generalize wc.setCell ⟨g, 2, none⟩ (.int .i64 (given + p)) = w3 at rM3 rH3 rO3 rT3 ⊢
      refine start_ (n := 20) (S := fun V => V.cell? ⟨g, 1, none⟩ = some (.slice A1 KB.size k1)) (ds := [19]) #[false, false, false, false, false, false, false, false, false, false, false, false, false, false, false, false, false, false, false, false] (by kernel_rfl) rfl rfl ((rM3.drew.cell 1).trans rfl) (fun hHeld => ?_)
      refine pure_ (i := 0) (N := some 106) (v := ?_) (a' := ?_) #[true, false, false, false, false, false, false, false, false, false, false, false, false, false, false, false, false, false, false, false] rfl rfl (by kernel_rfl) (fun _ _ _ h => h) (Or.inl ⟨by rfl, ?_⟩) ?_ ?_
      rotate_left
      · intro w'
        go_simp
        with_reducible rfl
      rotate_left
      · simp only [Act.put, List.setIfInBounds_toArray, List.set_cons_zero, List.set_cons_succ, i64_w, i32_w]
        rfl
      refine pure_ (i := 1) (N := some 107) (v := ?_) (a' := ?_) #[true, true, false, false, false, false, false, false, false, false, false, false, false, false, false, false, false, false, false, false] rfl rfl (by kernel_rfl) (fun _ _ _ h => h) (Or.inl ⟨by rfl, ?_⟩) ?_ ?_
      rotate_left
      · intro w'
        go_simp
        with_reducible rfl
      rotate_left
      · simp only [Act.put, List.setIfInBounds_toArray, List.set_cons_zero, List.set_cons_succ, i64_w, i32_w]
        rfl
      refine pure_ (i := 2) (N := some 108) (v := ?_) (a' := ?_) #[true, true, true, false, false, false, false, false, false, false, false, false, false, false, false, false, false, false, false, false] rfl rfl (by kernel_rfl) (fun _ _ _ h => h) (Or.inl ⟨by rfl, ?_⟩) ?_ ?_
      rotate_left
      · intro w'
        go_simp
        with_reducible rfl
      rotate_left
      · simp only [Act.put, List.setIfInBounds_toArray, List.set_cons_zero, List.set_cons_succ, i64_w, i32_w]
        rfl
      refine pure_ (i := 3) (N := some 109) (v := ?_) (a' := ?_) #[true, true, true, true, false, false, false, false, false, false, false, false, false, false, false, false, false, false, false, false] rfl rfl (by kernel_rfl) (fun _ _ _ h => h) (Or.inl ⟨by rfl, ?_⟩) ?_ ?_
      rotate_left
      · intro w'
        go_simp
        with_reducible rfl
      rotate_left
      · simp only [Act.put, List.setIfInBounds_toArray, List.set_cons_zero, List.set_cons_succ, i64_w, i32_w]
        rfl
      refine pure_ (i := 5) (N := some 111) (v := ?_) (a' := ?_) #[true, true, true, true, false, true, false, false, false, false, false, false, false, false, false, false, false, false, false, false] rfl rfl (by kernel_rfl) (fun _ _ _ h => h) (Or.inl ⟨by rfl, ?_⟩) ?_ ?_
      rotate_left
      · intro w'
        go_simp
        with_reducible rfl
      rotate_left
      · simp only [Act.put, List.setIfInBounds_toArray, List.set_cons_zero, List.set_cons_succ, i64_w, i32_w]
        rfl
      refine pure_ (i := 6) (N := some 112) (v := ?_) (a' := ?_) #[true, true, true, true, false, true, true, false, false, false, false, false, false, false, false, false, false, false, false, false] rfl rfl (by kernel_rfl) (fun _ _ _ h => h) (Or.inl ⟨by rfl, ?_⟩) ?_ ?_
      rotate_left
      · intro w'
        go_simp
        with_reducible rfl
      rotate_left
      · simp only [Act.put, List.setIfInBounds_toArray, List.set_cons_zero, List.set_cons_succ, i64_w, i32_w]
        rfl
      refine pure_ (i := 7) (N := some 113) (v := ?_) (a' := ?_) #[true, true, true, true, false, true, true, true, false, false, false, false, false, false, false, false, false, false, false, false] rfl rfl (by kernel_rfl) (fun _ _ _ h => h) (Or.inl ⟨by rfl, ?_⟩) ?_ ?_
      rotate_left
      · intro w'
        go_simp
        with_reducible rfl
      rotate_left
      · simp only [Act.put, List.setIfInBounds_toArray, List.set_cons_zero, List.set_cons_succ, i64_w, i32_w]
        rfl
      refine pure_ (i := 9) (N := some 115) (v := ?_) (a' := ?_) #[true, true, true, true, false, true, true, true, false, true, false, false, false, false, false, false, false, false, false, false] rfl rfl (by kernel_rfl) (fun _ _ _ h => h) (Or.inl ⟨by rfl, ?_⟩) ?_ ?_
      rotate_left
      · intro w'
        go_simp
        with_reducible rfl
      rotate_left
      · simp only [Act.put, List.setIfInBounds_toArray, List.set_cons_zero, List.set_cons_succ, i64_w, i32_w]
        rfl
      refine pure_ (i := 10) (N := some 116) (v := ?_) (a' := ?_) #[true, true, true, true, false, true, true, true, false, true, true, false, false, false, false, false, false, false, false, false] rfl rfl (by kernel_rfl) (fun _ _ _ h => h) (Or.inl ⟨by rfl, ?_⟩) ?_ ?_
      rotate_left
      · intro w'
        go_simp
        with_reducible rfl
      rotate_left
      · simp only [Act.put, List.setIfInBounds_toArray, List.set_cons_zero, List.set_cons_succ, i64_w, i32_w]
        rfl
      refine pure_ (i := 11) (N := some 117) (v := ?_) (a' := ?_) #[true, true, true, true, false, true, true, true, false, true, true, true, false, false, false, false, false, false, false, false] rfl rfl (by kernel_rfl) (fun _ _ _ h => h) (Or.inl ⟨by rfl, ?_⟩) ?_ ?_
      rotate_left
      · intro w'
        go_simp
        with_reducible rfl
      rotate_left
      · simp only [Act.put, List.setIfInBounds_toArray, List.set_cons_zero, List.set_cons_succ, i64_w, i32_w]
        rfl
      refine pure_ (i := 13) (N := some 119) (v := ?_) (a' := ?_) #[true, true, true, true, false, true, true, true, false, true, true, true, false, true, false, false, false, false, false, false] rfl rfl (by kernel_rfl) (fun _ _ _ h => h) (Or.inl ⟨by rfl, ?_⟩) ?_ ?_
      rotate_left
      · intro w'
        go_simp
        with_reducible rfl
      rotate_left
      · simp only [Act.put, List.setIfInBounds_toArray, List.set_cons_zero, List.set_cons_succ, i64_w, i32_w]
        rfl
      refine take_ (i := 4) (N := some 110) (v := ?_) (a' := ?_) #[true, true, true, true, true, true, true, true, false, true, true, true, false, true, false, false, false, false, false, false] rfl rfl (by kernel_rfl) (fun _ _ _ h => h) (Or.inl ⟨by rfl, ?_⟩) hHeld ?_ ?_
      rotate_left
      · rintro w' s1
        go_simp
        with_reducible rfl
      rotate_left
      · simp only [Act.put, List.setIfInBounds_toArray, List.set_cons_zero, List.set_cons_succ, i64_w, i32_w]
        rfl
      refine take_ (i := 8) (N := some 114) (v := ?_) (a' := ?_) #[true, true, true, true, true, true, true, true, true, true, true, true, false, true, false, false, false, false, false, false] rfl rfl (by kernel_rfl) (fun _ _ _ h => h) (Or.inl ⟨by rfl, ?_⟩) hHeld ?_ ?_
      rotate_left
      · rintro w' s1
        go_simp
        with_reducible rfl
      rotate_left
      · simp only [Act.put, List.setIfInBounds_toArray, List.set_cons_zero, List.set_cons_succ, i64_w, i32_w]
        rfl
      refine take_ (i := 12) (N := some 118) (v := ?_) (a' := ?_) #[true, true, true, true, true, true, true, true, true, true, true, true, true, true, false, false, false, false, false, false] rfl rfl (by kernel_rfl) (fun _ _ _ h => h) (Or.inl ⟨by rfl, ?_⟩) hHeld ?_ ?_
      rotate_left
      · rintro w' s1
        go_simp
        with_reducible rfl
      rotate_left
      · simp only [Act.put, List.setIfInBounds_toArray, List.set_cons_zero, List.set_cons_succ, i64_w, i32_w]
        rfl
      refine pure_ (i := 14) (N := some 120) (v := ?_) (a' := ?_) #[true, true, true, true, true, true, true, true, true, true, true, true, true, true, true, false, false, false, false, false] rfl rfl (by kernel_rfl) (fun _ _ _ h => h) (Or.inl ⟨by rfl, ?_⟩) ?_ ?_
      rotate_left
      · intro w'
        go_simp
        with_reducible rfl
      rotate_left
      · simp only [Act.put, List.setIfInBounds_toArray, List.set_cons_zero, List.set_cons_succ, i64_w, i32_w]
        rfl
      refine one_ (i := 15) (N := some 121) #[true, true, true, true, true, true, true, true, true, true, true, true, true, true, true, true, false, false, false, false] rfl rfl (by kernel_rfl) (by decide) (fun K hK => ?_)
      have hcK := Kd.R_reads' rH3
      rw [nums_len KB] at hcK
      have hcD := Kd.C_drop (m := p) (c := k1) (by rw [nums_len KB]; exact hcK.2.2) (by rw [nums_len KB]; omega) (by rw [nums_len KB]; omega)
      change Kd.C _ _ (if k1 = p then A1 else A1.map (·.add (p * 1))) _ _ at hcD
      rw [nums_drop, ← HRE.out, nums_len rest, ← HA2.out] at hcD
      refine R_copy_step (0 : Int) (W := w3.drew) B (by rfl) (.tmp 114) (.tmp 120) 33 33 5 rfl Try.underlying33 infoU8s (.slice A1 KB.size k1) (numsOf KB) (numsOf rest) A2 rest.size (k1 - p) (fun _ => True) rfl rfl (Kd.R_drew rH3) (Kd.C_drew hcD) ?_
      intro w4 hR4 hg4
      have emin : min rest.size (numsOf KB).length = rest.size := by rw [nums_len, HZ.out]; omega
      rw [emin] at hR4 ⊢
      have hne4 : some g ≠ (Value.slice A1 KB.size k1).ownBlock := Kd.R_ne rH3 rM3 (by decide)
      have rM4 : At w4 g 44 #[.int .i64 limit, .slice A1 KB.size k1, .int .i64 (given + p), .int .i64 0] := (hg4.block g rM3.lt hne4).trans rM3
      have rO4 := Kd.R_over (Kd.R_drew rO3) (Kd.R_drew rH3) (by decide) hg4
      have rT4 := rT3.drew.grown hg4 (fun x hx => by
        rcases HAT.out with h | ⟨b, h, h2⟩
        · exact .inr (.inl (by rw [← h, hx]))
        · rw [h] at hx; injection hx with hx; subst hx; exact .inr (.inr h2))
      refine hK.out _ _ ((rM4.cell 1).trans rfl) (fun hHeld => ?_)
      clear hK K
      refine norm_ (a' := ?_) ?_ ?_
      rotate_left
      · show Act.put _ (some 121) _ = _
        simp only [Act.put, List.setIfInBounds_toArray, List.set_cons_zero, List.set_cons_succ, i64_w, i32_w]
        rfl
      refine pure_ (i := 16) (N := some 122) (v := ?_) (a' := ?_) #[true, true, true, true, true, true, true, true, true, true, true, true, true, true, true, true, true, false, false, false] rfl rfl (by kernel_rfl) (fun _ _ _ h => h) (Or.inl ⟨by rfl, ?_⟩) ?_ ?_
      rotate_left
      · intro w'
        go_simp
        with_reducible rfl
      rotate_left
      · simp only [Act.put, List.setIfInBounds_toArray, List.set_cons_zero, List.set_cons_succ, i64_w, i32_w]
        rfl
      refine pure_ (i := 17) (N := some 123) (v := ?_) (a' := ?_) #[true, true, true, true, true, true, true, true, true, true, true, true, true, true, true, true, true, true, false, false] rfl rfl (by kernel_rfl) (fun _ _ _ h => h) (Or.inl ⟨by rfl, ?_⟩) ?_ ?_
      rotate_left
      · intro w'
        go_simp
        with_reducible rfl
      rotate_left
      · simp only [Act.put, List.setIfInBounds_toArray, List.set_cons_zero, List.set_cons_succ, i64_w, i32_w]
        rfl
      refine pure_ (i := 18) (N := some 124) (v := ?_) (a' := ?_) #[true, true, true, true, true, true, true, true, true, true, true, true, true, true, true, true, true, true, true, false] rfl rfl (by kernel_rfl) (fun _ _ _ h => h) (Or.inl ⟨by rfl, ?_⟩) ?_ ?_
      rotate_left
      · intro w'
        go_simp
        with_reducible rfl
      rotate_left
      · simp only [Act.put, List.setIfInBounds_toArray, List.set_cons_zero, List.set_cons_succ, i64_w, i32_w]
        rfl
      refine last_ (i := 19) (N := none) #[true, true, true, true, true, true, true, true, true, true, true, true, true, true, true, true, true, true, true, true] rfl rfl (by kernel_rfl) (by decide) (fun K hK => ?_)
      have s0 := (rM4.cell 1).trans rfl
      have s1 := rM4.free 1
      refine skip_ (w1 := ?_) (by rfl) rfl ?_ ?_
      rotate_left
      · go_simp
        rfl
      refine hK.out _ _ ?_
      clear hK K
      refine done_ (by kernel_rfl) ?_
      have rM5 : At (w4.setCell ⟨g, 1, none⟩ (.slice A1 rest.size k1)) g 44 #[.int .i64 limit, .slice A1 rest.size k1, .int .i64 (given + p), .int .i64 0] := rM4.set 1 _
      have rH5 : Kd.R (Kd.int .u8) 5 (w4.setCell ⟨g, 1, none⟩ (.slice A1 rest.size k1)) B (fun _ => True) (.slice A1 rest.size k1) (numsOf rest) := by
        have h := Kd.R_take (m := rest.size) hR4 (by rw [List.length_append, List.length_take, nums_len]; omega)
        rw [List.take_append_of_le_length (by rw [List.length_take, nums_len]; omega), List.take_take, Nat.min_self, List.take_of_length_le (by rw [nums_len]; exact Nat.le_refl _)] at h
        exact Kd.R_set h rM4 (by decide) 1 _
      have rO5 := Kd.R_set rO4 rM4 (by decide) 1 (.slice A1 rest.size k1)
      have rT5 := rT4.set 1 (.slice A1 rest.size k1)
      clear rM3 rH3 rO3 rT3 rM4 rO4 rT4 hR4 hg4 hcK hcD s0 s1 hcut1 hcut2 hHeld
      generalize w4.setCell ⟨g, 1, none⟩ (.slice A1 rest.size k1) = w5 at rM5 rH5 rO5 rT5 ⊢
      go_wp2_with fail
      try rw [Exit.noGoto_ret]
      refine bodyPost_ret (v := .tuple #[.slice Ao l.length co, .int .i64 0]) ?_ rfl ⟨.slice Ao l.length co, .slice A1 rest.size k1, ?_, ?_, ?_, ?_, ?_⟩
      · simp [results, Try.results6, go_sem]
      · rw [HE.out]
      · rw [HE.out]; exact rO5
      · rw [HE.out]
        refine ⟨rM5, ?_⟩
        have e : keptS KB (l, (p : Int), 0) = rest := by unfold keptS; rw [if_pos rfl, HRE.out]; simp
        rw [e]
        exact rH5
      · have eo : (Value.slice A1 rest.size k1).ownBlock = (Value.slice A1 KB.size k1).ownBlock := by cases A1 <;> rfl
        rw [HOB.out, eo]
        rcases HAT.out with h | ⟨b, h, h2⟩
        · exact .inr (.inl h)
        · exact .inr (.inr ⟨b, h, h2⟩)
      · rw [HOB.out]; exact rT5
    · have heb : (e != 0) = true := by simp [he]
      have f1 := rM.free 1
      have m1 := (rM.cell 1).trans rfl
      go_wp2_with fail
      go_quiet (fail)
      go_wp2_with fail
      rw [Exit.noGoto_ret]
      refine bodyPost_ret (v := .tuple #[.slice Ao l.length co, .int .i64 e]) ?_ rfl ⟨.slice Ao l.length co, .slice none 0 0, ?_, ?_, ?_, ?_, ?_⟩
      · simp [results, Try.results6, go_sem]
      · rw [HE.out]
      · rw [HE.out]
        exact Kd.R_drewN (Kd.R_set (Kd.R_set rO rM (by decide) 2 _) (rM.set 2 _) (by decide) 1 _) _
      · rw [HE.out]
        have e' : keptS KB (l, (p : Int), e) = ⟨#[]⟩ := by unfold keptS; rw [if_neg he]
        rw [e']
        exact ⟨((rM.set 2 _).set 1 _).drewN _, Kd.R_nil _ _ _ _ _⟩
      · exact .inl rfl
      · rw [HOB.out]
        have := (rT.set 2 (.int .i64 (given + p))).set 1 (.slice none 0 0)
        exact ⟨this.os, this.tape, this.output, this.size, this.block⟩
  case first =>
    go_wp2_with fail
    go_loopw [6, 7] (fun vo i wr => ∃ (p : Nat) (l : List ByteArray), p ≤ KB.size ∧ 2 * l.length ≤ p ∧ i = .int .i64 p ∧ Hid (out = (l ++ (cutAt limit KB p).1, (cutAt limit KB p).2)) ∧
        At wr g 44 #[.int .i64 limit, .slice A1 KB.size k1, .int .i64 given, .int .i64 0] ∧ Kd.R (Kd.int .u8) 5 wr B (fun _ => True) (.slice A1 KB.size k1) (numsOf KB) ∧
        Kd.R Kd.string 9 wr w.heap.size (fun _ => True) vo l ∧ Two w wr g o)
      (fun _ i _ => KB.size - (intOf i).toNat)
    case atStart => exact ⟨0, [], Nat.zero_le _, Nat.le_refl _, rfl, by unfold Hid; rw [HO.out]; simp, mem2, row2, Kd.R_nil _ _ _ _ _, T2⟩
    case round =>
      obtain ⟨p, l, hp, hl, rfl, HR, rM, rH, rO, rT⟩ := hrel
      obtain ⟨Ao, co, rfl⟩ := Kd.R_slice rO
      clear mem2 row2 T2 HO
      have m0 := (rM.cell 0).trans rfl
      have m1 := (rM.cell 1).trans rfl
      have m3 := (rM.cell 3).trans rfl
      have l1 := rM.lt
      by_cases hpe : p < KB.size
      · obtain ⟨rest, hrest⟩ : ∃ rest, rest = KB.extract p KB.size := ⟨_, rfl⟩
        obtain ⟨h, hh⟩ : ∃ h, h = lookS limit rest := ⟨_, rfl⟩
        have hrz : rest.size = KB.size - p := by rw [hrest]; simp
        have hst := cutAt_in (limit := limit) hpe
        rw [← hrest, ← hh] at hst
        obtain ⟨m, hm⟩ : ∃ m, m = min rest.size 6 := ⟨_, rfl⟩
        have hcK := Kd.R_reads' rH
        rw [nums_len KB] at hcK
        have hcD := Kd.C_drop (m := p) (c := k1) (by rw [nums_len KB]; exact hcK.2.2) (by rw [nums_len KB]; omega) (by rw [nums_len KB]; omega)
        rw [nums_drop, ← hrest, nums_len rest, if_neg (by omega)] at hcD
        obtain ⟨A2, hA2⟩ : ∃ A2, A2 = A1.map (·.add (p * 1)) := ⟨_, rfl⟩
        change Kd.C _ _ (A1.map (·.add (p * 1))) _ _ at hcD
        rw [← hA2] at hcD
        have hcT := Kd.C_take (m := m) (by rw [nums_len rest]; exact hcD) (by rw [nums_len rest]; omega)
        rw [nums_take] at hcT
        have h6 : lookS limit (rest.extract 0 m) = lookS limit rest := look_six limit rest m hm
        have h6z : (rest.extract 0 m).size = m := by simp; omega
        rw [nums_len, h6z] at hcT
        obtain ⟨i0, hi0, hz0, hz1, hz2⟩ := info_parts infoU8f
        have hcut1 : ∀ W : World, (Instr.slice 33 (.slice A1 KB.size k1) (some (.int .i64 (p : Int))) none none).run Try.prog W = .ok (.slice A2 rest.size (k1 - p)) W := by
          intro W
          have := cut_from 33 5 .i64 Try.underlying33 hi0 1 hz1 A1 KB.size k1 (p : Int) (by omega) (by omega) W
          rw [if_neg (by omega)] at this
          rw [this, hA2, hrz]
          simp
        have hcut2 : ∀ W : World, (Instr.slice 33 (.slice A2 rest.size (k1 - p)) none (some (.int .i64 (m : Int))) none).run Try.prog W = .ok (.slice A2 m (k1 - p)) W := by
          intro W
          have := cut_to 33 5 .i64 Try.underlying33 hi0 A2 rest.size (k1 - p) (m : Int) (by omega) (by omega) (by omega) W
          rw [this]
          simp
        have hcv : (convert 33 9 (.slice A2 m (k1 - p))).run Try.prog wr.drew = .ok (.string (rest.extract 0 m)) wr.drew := by
          have := Kd.C_string (P := Try.prog) (src := 33) (dst := 9) (e := 5) (c := k1 - p) Try.underlying33 Try.underlying5 Try.underlying9 (Kd.C_drew hcT)
          rwa [nums_str] at this
        have hcv2 : ∀ (ob : Obj), (convert 33 9 (.slice A2 m (k1 - p))).run Try.prog (wr.alloc ob).drew = .ok (.string (rest.extract 0 m)) (wr.alloc ob).drew := by
          intro ob
          have := Kd.C_string (P := Try.prog) (src := 33) (dst := 9) (e := 5) (c := k1 - p) Try.underlying33 Try.underlying5 Try.underlying9 (Kd.C_drew (Kd.C_alloc hcT ob))
          rwa [nums_str] at this
        have hmn : (if (6 : Int) < (rest.size : Int) then (6 : Int) else (rest.size : Int)) = (m : Int) := by split <;> omega
        have HM := Lib.hid hm
        have HS := Lib.hid hst
        have HZ := Lib.hid hrz
        have H6 := Lib.hid h6
        have H6Z := Lib.hid h6z
        have HCD := Lib.hid hcD
        have RM := Lib.hid rM
        have RH := Lib.hid rH
        have RO := Lib.hid rO
        clear hm hst hrz h6z hcD hcT hcK hA2 hi0 hz0 hz1 hz2 hrest rM rH rO
        go_upto_region 8 with (fail)
        have HH := Lib.hid hh
        have m6 : m ≤ 6 := by rw [HM.out]; omega
        have zx : (rest.extract 0 m).size ≤ 140737488351232 := by rw [H6Z.out]; omega
        have hL : ∀ W : World, Calls Try.prog 10 #[.int .i64 limit, .string (rest.extract 0 m)] W fun e w' => e = .returned (.agg #[.int .i64 h.1, .int .i64 h.2.1, .int .i64 h.2.2]) ∧ Below W.heap.size W w' := by
          intro W
          have := look_any limit (rest.extract 0 m) W zx
          rw [h6, ← hh] at this
          exact this
        have HL := Lib.hid hL
        clear hh hL h6
        go_cut [9] from 28 to 84 (fun hp wx => ∃ b, hp = .pointer (some ⟨b, 0, none⟩) ∧ wr.heap.size ≤ b ∧ At wx b 46 #[.int .i64 h.1, .int .i64 h.2.1, .int .i64 h.2.2] ∧ Below wr.heap.size wr wx)
        case first =>
          go_region_with (go_at_call 10; refine (HL.out _).mono ?_; rintro en w5 ⟨rfl, b5⟩; (try (have a5 := (At.new wr 46 #[.int .i64 0, .int .i64 0, .int .i64 0]).drew.below b5 (At.new wr 46 #[.int .i64 0, .int .i64 0, .int .i64 0]).lt; have x0 : w5.cell? ⟨wr.heap.size, 0, none⟩ = some (.int .i64 0) := (a5.cell 0).trans rfl; have x1 : w5.cell? ⟨wr.heap.size, 1, none⟩ = some (.int .i64 0) := (a5.cell 1).trans rfl; have x2 : w5.cell? ⟨wr.heap.size, 2, none⟩ = some (.int .i64 0) := (a5.cell 2).trans rfl; have y0 : w5.frozen? ⟨wr.heap.size, 0, none⟩ = false := a5.free 0; have y1 : w5.frozen? ⟨wr.heap.size, 1, none⟩ = false := a5.free 1; have y2 : w5.frozen? ⟨wr.heap.size, 2, none⟩ = false := a5.free 2; have A5 := Lib.hid a5; have B5 := Lib.hid b5; clear a5 b5)))
          all_goals
            go_wp2_with fail
            go_meet
            case rel =>
              first
                | exact ⟨_, rfl, b5.size, At.new _ _ _, (⟨b5.os, b5.tape, b5.output, b5.size, b5.block⟩ : Below wr.heap.size wr w5).alloc b5.size _⟩
                | exact ⟨_, rfl, Nat.le_refl _, ((A5.out.set 0 _).set 1 _).set 2 _, (((((Below.refl _ wr).alloc (Nat.le_refl _) _).trans ((⟨B5.out.os, B5.out.tape, B5.out.output, B5.out.size, B5.out.block⟩ : Below (wr.alloc (.cells #[.int .i64 0, .int .i64 0, .int .i64 0] 46)).heap.size (wr.alloc (.cells #[.int .i64 0, .int .i64 0, .int .i64 0] 46)) w5).mono (by simp))).setCell (by simp) _).setCell (by simp) _).setCell (by simp) _⟩
        case rest =>
          obtain ⟨b, rfl, hb, aH, bW⟩ := hcut
          have rM1 := RM.out.below bW RM.out.lt
          have rH1 := Kd.R_below RH.out bW
          have rO1 := Kd.R_below RO.out bW
          have rT1 := rT.below bW
          have hC1 := Kd.C_below HCD.out bW
          clear RM RH RO rT HCD m0 m1 m3 l1 hcv hcv2 hcut1 hcut2 hmn HL
          have m0 := (rM1.cell 0).trans rfl
          have m1 := (rM1.cell 1).trans rfl
          have m2 := (rM1.cell 2).trans rfl
          have m3 := (rM1.cell 3).trans rfl
          have f2 := rM1.free 2
          have f3 := rM1.free 3
          have l1 := rM1.lt
          have a0 := (aH.cell 0).trans rfl
          have a1 := (aH.cell 1).trans rfl
          have a2 := (aH.cell 2).trans rfl
          have la := aH.lt
          by_cases he : h.2.2 = 0
          · have heb : (h.2.2 != 0) = false := by simp [he]
            have hlk := look_ok limit rest
            rw [← HH.out] at hlk
            have hlk2 : (h.1 = 0 ∧ h.2.1 = 0 ∧ (0 : Int) = 0) ∨ ¬ (0 : Int) = 0 ∨ (2 ≤ h.1 ∧ h.1 ≤ 6 ∧ 0 ≤ h.2.1 ∧ h.2.1 < 4294967296 ∧ (0 : Int) = 0) := by rw [he] at hlk; exact hlk
            have HK2 := Lib.hid hlk2
            obtain ⟨m9, hm9⟩ : ∃ m9, m9 = missS h (rest.size : Int) := ⟨_, rfl⟩
            have hwh : ¬ 0 < m9 → 2 ≤ h.1 ∧ h.1 ≤ 6 ∧ 0 ≤ h.2.1 ∧ h.2.1 < 4294967296 ∧ h.1 + h.2.1 ≤ rest.size ∧ h.1 + h.2.1 ≤ limit := by
              intro hq
              have := whole_of (limit := limit) (b := rest) (by rw [HZ.out]; omega) (by rw [← HH.out]; exact he) (by rw [← HH.out, ← hm9]; exact hq)
              rw [← HH.out] at this
              exact this
            have HW := Lib.hid hwh
            have HS2 : Hid (cutAt limit KB p = if 0 < m9 then ([], (p : Int), 0) else (rest.extract 0 (h.1 + h.2.1).toNat :: (cutAt limit KB (p + (h.1 + h.2.1).toNat)).1, (cutAt limit KB (p + (h.1 + h.2.1).toNat)).2)) := by
              unfold Hid
              rw [HS.out, if_neg (fun z => z he), ← hm9]
            have HM2 : Hid (missS (h.1, h.2.1, 0) (rest.size : Int) = m9) := by
              unfold Hid
              rw [hm9, ← he]
            have hrle : rest.size ≤ 16777216 := by rw [HZ.out]; omega
            clear hlk hlk2 hwh hm9 HS
            go_wp2_with fail
            refine (fmissing_any h.1 h.2.1 0 (rest.size : Int) _ (by omega) (by omega) (by simpa using HK2.out)).mono ?_
            rintro en w6 ⟨rfl, b6⟩
            rw [HM2.out]
            have rM2 := rM1.below b6 rM1.lt
            have rH2 := Kd.R_below rH1 b6
            have rO2 := Kd.R_below rO1 b6
            have rT2 := rT1.below b6
            have hC2 := Kd.C_below hC1 b6
            have aH2 := aH.below b6 aH.lt
            clear rM1 rH1 rO1 rT1 hC1 aH m0 m1 m2 m3 f2 f3 l1 a0 a1 a2 la b6
            have a0 := (aH2.cell 0).trans rfl
            have a1 := (aH2.cell 1).trans rfl
            by_cases hm : 0 < m9
            · have hce := HS2.out
              rw [if_pos hm] at hce
              have HE := Lib.hid hce
              clear hce HS2
              go_wp2_with fail
              go_meet
              case rel =>
                refine ⟨p, l, 0, by omega, rfl, ?_, rM2, rH2, rO2, rT2⟩
                unfold Hid
                rw [HR.out, HE.out]
                simp
            · obtain ⟨q1, q2, q3, q4, q5, q6⟩ := HW.out (by omega)
              have hce := HS2.out
              rw [if_neg hm] at hce
              have HE := Lib.hid hce
              clear hce HS2 HW
              obtain ⟨n, hn⟩ : ∃ n : Nat, h.1 + h.2.1 = n := ⟨(h.1 + h.2.1).toNat, by omega⟩
              have hnt : (h.1 + h.2.1).toNat = n := by omega
              obtain ⟨i0, hi0, hz0, hz1, hz2⟩ := info_parts infoU8f
              have hcut3 : ∀ W : World, (Instr.slice 33 (.slice A2 rest.size (k1 - p)) none (some (.int .i64 (h.1 + h.2.1))) none).run Try.prog W = .ok (.slice A2 n (k1 - p)) W := by
                intro W
                have := cut_to 33 5 .i64 Try.underlying33 hi0 A2 rest.size (k1 - p) (h.1 + h.2.1) (by omega) (by omega) (by rw [HZ.out]; omega) W
                rw [this, hnt]
              have hcT := Kd.C_take (m := n) (by rw [nums_len rest]; exact hC2) (by rw [nums_len rest]; omega)
              rw [nums_take] at hcT
              have hxz : (rest.extract 0 n).size = n := by simp; omega
              rw [nums_len, hxz] at hcT
              have hcv : (convert 33 9 (.slice A2 n (k1 - p))).run Try.prog w6 = .ok (.string (rest.extract 0 n)) w6 := by
                have := Kd.C_string (P := Try.prog) (src := 33) (dst := 9) (e := 5) (c := k1 - p) Try.underlying33 Try.underlying5 Try.underlying9 hcT
                rwa [nums_str] at this
              have HN := Lib.hid hn
              have HNT := Lib.hid hnt
              have HZX := Lib.hid hxz
              have zw : w.heap.size ≤ w6.heap.size := rT2.size
              have hlen : (l.length + 1) * 16 ≤ 140737488355328 := by omega
              clear hn hnt hxz hcT hi0 hz0 hz1 hz2
              go_upto_region 13 with (at_builtin; go_must (refine Kd.R_append Kd.string (w0 := w6) (W := w6) w.heap.size rfl (.tmp 67) (.tmp 76) 29 9 (.string ⟨#[]⟩) 16 rfl Try.underlying29 info_str rfl (by decide) (by decide) (.slice Ao l.length co) l (rest.extract 0 n) [.string (rest.extract 0 n)] (fun _ => True) (fun _ => False) rfl rfl rfl (fun _ h => h.elim) (fun _ _ => trivial) rO2 (Below.refl _ _) zw hlen ?_); intro v7 w7 hR7 hb7 hg7 hat7)
              have hne7 : some g ≠ (Value.slice Ao l.length co).ownBlock := Kd.R_ne rO2 rM2 (by decide)
              have hnb7 : some b ≠ (Value.slice Ao l.length co).ownBlock := Kd.R_ne rO2 aH2 (by decide)
              have rM7 : At w7 g 44 #[.int .i64 limit, .slice A1 KB.size k1, .int .i64 given, .int .i64 0] := (hg7.block g rM2.lt hne7).trans rM2
              have aH7 : At w7 b 46 #[.int .i64 h.1, .int .i64 h.2.1, .int .i64 h.2.2] := (hg7.block b aH2.lt hnb7).trans aH2
              have rH7 := Kd.R_over rH2 rO2 (by decide) hg7
              have rT7 := rT2.grown hg7 (fun x hx => .inr (.inr ((Kd.R_bound rO2).1 x hx).2.1))
              clear rM2 aH2 rH2 rT2 rO2 hC2 hb7 hg7 hat7 hne7 hnb7 a0 a1 hcut3 hcv
              have a0 := (aH7.cell 0).trans rfl
              have a1 := (aH7.cell 1).trans rfl
              go_wp2
              go_roundw
              case rel =>
                refine ⟨p + n, l ++ [rest.extract 0 n], by have := HZ.out; have := HN.out; omega, by have := HN.out; simp; omega, ?_, ?_, rM7, rH7, hR7, rT7⟩
                · have := HN.out
                  congr 1
                  omega
                · unfold Hid
                  rw [HR.out, HE.out, HNT.out]
                  simp
              case measure =>
                have := HN.out
                have := HZ.out
                simp [intOf]
                omega
          · have heb : (h.2.2 != 0) = true := by simp [he]
            have hce := HS.out
            rw [if_pos he] at hce
            have HE := Lib.hid hce
            clear hce
            go_wp2_with fail
            go_meet
            case rel =>
              refine ⟨p, l, h.2.2, by omega, rfl, ?_, rM1.set 3 _, Kd.R_set rH1 rM1 (by decide) 3 _, Kd.R_set rO1 rM1 (by decide) 3 _, rT1.set 3 _⟩
              unfold Hid
              rw [HR.out, HE.out]
              simp
      · have hce := cutAt_end (limit := limit) (s := KB) (p := p) (by omega)
        have HE := Lib.hid hce
        clear hce
        go_wp2_with fail
        go_meet
        case rel =>
          refine ⟨p, l, 0, by omega, rfl, ?_, rM, rH, rO, rT⟩
          unfold Hid
          rw [HR.out, HE.out]
          simp
end Go.Proofs.Ytgihlldkdbjkkaa.W
