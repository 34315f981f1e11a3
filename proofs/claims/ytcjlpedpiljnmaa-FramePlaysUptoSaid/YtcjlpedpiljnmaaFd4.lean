/- Walk of the Framer's question Need, where nothing is refused. -/
import Derived.Test.YtcjlpedpiljnmaaFd3
namespace Go.Proofs.Ytcjlpedpiljnmaa.W
open Go.RowKit Go.Proofs.YtcjlpedpiljnmaaW.PrintWords Go.Proofs.YtcjlpedpiljnmaaW.PrintLast Go.Proofs.YtcjlpedpiljnmaaW.PrintMore
attribute [local go_sem] max2_int min2_int max_two min_two   -- for this text's walks alone
set_option linter.unusedVariables false
set_option linter.unusedSimpArgs false

set_option maxRecDepth 100000 in
set_option maxHeartbeats 4000000 in
theorem FrNeed_ok (w : World) (B g : Nat) (v : Value) (limit given : Int) (H : ByteArray) (h : FrAt w B g v limit H given 0) (hs : H.size ≤ 16777216) :
    Calls Try.prog 28 #[.pointer (some ⟨g, 0, none⟩)] w fun en w' => en = .returned (.int .i64 (needS limit H)) ∧ Below w.heap.size w w' := by
  obtain ⟨A, c, rfl⟩ := Kd.R_slice h.row
  rw [nums_len H] at h
  have m0 := (h.mem.cell 0).trans rfl
  have m1 := (h.mem.cell 1).trans rfl
  have m3 := (h.mem.cell 3).trans rfl
  have l1 := h.mem.lt
  have hb : ((0 : Int) != 0) = false := rfl
  obtain ⟨hd, hh⟩ : ∃ hd, hd = lookS limit H := ⟨_, rfl⟩
  obtain ⟨m, hm⟩ : ∃ m, m = min H.size 6 := ⟨_, rfl⟩
  have hcK := Kd.R_reads' h.row
  rw [nums_len H] at hcK
  have hcT := Kd.C_take (m := m) (by rw [nums_len H]; exact hcK.2.2) (by rw [nums_len H]; omega)
  rw [nums_take] at hcT
  have h6 : lookS limit (H.extract 0 m) = lookS limit H := look_six limit H m hm
  have h6z : (H.extract 0 m).size = m := by simp; omega
  rw [nums_len, h6z] at hcT
  obtain ⟨i0, hi0, hz0, hz1, hz2⟩ := info_parts infoU8f
  have hcut2 : ∀ W : World, (Instr.slice 50 (.slice A H.size c) none (some (.int .i64 (m : Int))) none).run Try.prog W = .ok (.slice A m c) W := by
    intro W
    have := cut_to 50 5 .i64 Try.underlying50 hi0 A H.size c (m : Int) (by omega) (by omega) (by omega) W
    rw [this]
    simp
  have hcv : ∀ V, Below w.heap.size w V → (convert 50 9 (.slice A m c)).run Try.prog V = .ok (.string (H.extract 0 m)) V := by
    intro V hV
    have := Kd.C_string (P := Try.prog) (src := 50) (dst := 9) (e := 5) (c := c) Try.underlying50 Try.underlying5 Try.underlying9 (Kd.C_below hcT hV)
    rwa [nums_str] at this
  have hmn : (if (6 : Int) < (H.size : Int) then (6 : Int) else (H.size : Int)) = (m : Int) := by split <;> omega
  have m6 : m ≤ 6 := by omega
  have zx : (H.extract 0 m).size ≤ 140737488351232 := by omega
  have hL : ∀ W : World, Calls Try.prog 49 #[.int .i64 limit, .string (H.extract 0 m)] W fun e w' => e = .returned (.agg #[.int .i64 hd.1, .int .i64 hd.2.1, .int .i64 hd.2.2]) ∧ Below W.heap.size W w' := by
    intro W
    have := look_any limit (H.extract 0 m) W zx
    rw [h6, ← hh] at this
    exact this
  have hlk := look_ok limit H
  rw [← hh] at hlk
  have hN : ∀ W : World, Calls Try.prog 50 #[.agg #[.int .i64 hd.1, .int .i64 hd.2.1, .int .i64 hd.2.2], .int .i64 (H.size : Int)] W fun en w' => en = .returned (.int .i64 (needS limit H)) ∧ Below W.heap.size W w' := by
    intro W
    have := missing_any hd.1 hd.2.1 hd.2.2 (H.size : Int) W (by omega) (by omega) (by simpa using hlk)
    have e : needS limit H = missS (hd.1, hd.2.1, hd.2.2) (H.size : Int) := by unfold needS; rw [hh]
    rw [e]
    exact this
  have HN := Lib.hid hN
  have HL := Lib.hid hL
  have HF := Lib.hid h
  have HCV := Lib.hid hcv
  have hmem : ∀ V, Below w.heap.size w V → At V g 104 #[.int .i64 limit, .slice A H.size c, .int .i64 given, .int .i64 0] := fun V hV => h.mem.below hV h.mem.lt
  have HME := Lib.hid hmem
  clear hm hh h6 h6z hcT hcK hi0 hz0 hz1 hz2 hL hN hlk h zx hcv hmem
  go_enter Try.func28, Try.ntmps28
  go_upto_region 3 with (fail)
  go_cut [3] from 4 (fun hp wx => ∃ b, hp = .pointer (some ⟨b, 0, none⟩) ∧ w.heap.size ≤ b ∧ At wx b 97 #[.int .i64 hd.1, .int .i64 hd.2.1, .int .i64 hd.2.2] ∧ Below w.heap.size w wx)
  case first =>
    have b0 : Below w.heap.size w w.drew := (Below.refl _ _).drew
    refine start_ (n := 19) (S := fun V => (V.cell? ⟨g, 0, none⟩ = some (.int .i64 limit) ∧ V.cell? ⟨g, 1, none⟩ = some (.slice A H.size c)) ∧ (convert 50 9 (.slice A m c)).run Try.prog V = .ok (.string (H.extract 0 m)) V) (ds := [18]) #[false, false, false, false, false, false, false, false, false, false, false, false, false, false, false, false, false, false, false] (by kernel_rfl) rfl rfl ⟨⟨((HME.out _ b0).cell 0).trans rfl, ((HME.out _ b0).cell 1).trans rfl⟩, HCV.out _ b0⟩ (fun hHeld => ?_)
    refine pure_ (i := 0) (N := some 9) (v := ?_) (a' := ?_) #[true, false, false, false, false, false, false, false, false, false, false, false, false, false, false, false, false, false, false] rfl rfl (by kernel_rfl) (fun _ _ _ h => h) (Or.inl ⟨by rfl, ?_⟩) ?_ ?_
    rotate_left
    · intro w'
      go_simp
      with_reducible rfl
    rotate_left
    · simp only [Act.put, List.setIfInBounds_toArray, List.set_cons_zero, List.set_cons_succ, i64_w, i32_w]
      rfl
    refine pure_ (i := 1) (N := some 10) (v := ?_) (a' := ?_) #[true, true, false, false, false, false, false, false, false, false, false, false, false, false, false, false, false, false, false] rfl rfl (by kernel_rfl) (fun _ _ _ h => h) (Or.inl ⟨by rfl, ?_⟩) ?_ ?_
    rotate_left
    · intro w'
      go_simp
      with_reducible rfl
    rotate_left
    · simp only [Act.put, List.setIfInBounds_toArray, List.set_cons_zero, List.set_cons_succ, i64_w, i32_w]
      rfl
    refine pure_ (i := 2) (N := some 11) (v := ?_) (a' := ?_) #[true, true, true, false, false, false, false, false, false, false, false, false, false, false, false, false, false, false, false] rfl rfl (by kernel_rfl) (fun _ _ _ h => h) (Or.inl ⟨by rfl, ?_⟩) ?_ ?_
    rotate_left
    · intro w'
      go_simp
      with_reducible rfl
    rotate_left
    · simp only [Act.put, List.setIfInBounds_toArray, List.set_cons_zero, List.set_cons_succ, i64_w, i32_w]
      rfl
    refine pure_ (i := 4) (N := some 13) (v := ?_) (a' := ?_) #[true, true, true, false, true, false, false, false, false, false, false, false, false, false, false, false, false, false, false] rfl rfl (by kernel_rfl) (fun _ _ _ h => h) (Or.inl ⟨by rfl, ?_⟩) ?_ ?_
    rotate_left
    · intro w'
      go_simp
      with_reducible rfl
    rotate_left
    · simp only [Act.put, List.setIfInBounds_toArray, List.set_cons_zero, List.set_cons_succ, i64_w, i32_w]
      rfl
    refine pure_ (i := 5) (N := some 14) (v := ?_) (a' := ?_) #[true, true, true, false, true, true, false, false, false, false, false, false, false, false, false, false, false, false, false] rfl rfl (by kernel_rfl) (fun _ _ _ h => h) (Or.inl ⟨by rfl, ?_⟩) ?_ ?_
    rotate_left
    · intro w'
      go_simp
      with_reducible rfl
    rotate_left
    · simp only [Act.put, List.setIfInBounds_toArray, List.set_cons_zero, List.set_cons_succ, i64_w, i32_w]
      rfl
    refine pure_ (i := 6) (N := some 15) (v := ?_) (a' := ?_) #[true, true, true, false, true, true, true, false, false, false, false, false, false, false, false, false, false, false, false] rfl rfl (by kernel_rfl) (fun _ _ _ h => h) (Or.inl ⟨by rfl, ?_⟩) ?_ ?_
    rotate_left
    · intro w'
      go_simp
      with_reducible rfl
    rotate_left
    · simp only [Act.put, List.setIfInBounds_toArray, List.set_cons_zero, List.set_cons_succ, i64_w, i32_w]
      rfl
    refine pure_ (i := 8) (N := some 17) (v := ?_) (a' := ?_) #[true, true, true, false, true, true, true, false, true, false, false, false, false, false, false, false, false, false, false] rfl rfl (by kernel_rfl) (fun _ _ _ h => h) (Or.inl ⟨by rfl, ?_⟩) ?_ ?_
    rotate_left
    · intro w'
      go_simp
      with_reducible rfl
    rotate_left
    · simp only [Act.put, List.setIfInBounds_toArray, List.set_cons_zero, List.set_cons_succ, i64_w, i32_w]
      rfl
    refine pure_ (i := 9) (N := some 18) (v := ?_) (a' := ?_) #[true, true, true, false, true, true, true, false, true, true, false, false, false, false, false, false, false, false, false] rfl rfl (by kernel_rfl) (fun _ _ _ h => h) (Or.inl ⟨by rfl, ?_⟩) ?_ ?_
    rotate_left
    · intro w'
      go_simp
      with_reducible rfl
    rotate_left
    · simp only [Act.put, List.setIfInBounds_toArray, List.set_cons_zero, List.set_cons_succ, i64_w, i32_w]
      rfl
    refine pure_ (i := 10) (N := some 19) (v := ?_) (a' := ?_) #[true, true, true, false, true, true, true, false, true, true, true, false, false, false, false, false, false, false, false] rfl rfl (by kernel_rfl) (fun _ _ _ h => h) (Or.inl ⟨by rfl, ?_⟩) ?_ ?_
    rotate_left
    · intro w'
      go_simp
      with_reducible rfl
    rotate_left
    · simp only [Act.put, List.setIfInBounds_toArray, List.set_cons_zero, List.set_cons_succ, i64_w, i32_w]
      rfl
    refine take_ (i := 3) (N := some 12) (v := ?_) (a' := ?_) #[true, true, true, true, true, true, true, false, true, true, true, false, false, false, false, false, false, false, false] rfl rfl (by kernel_rfl) (fun _ _ _ h => h) (Or.inl ⟨by rfl, ?_⟩) hHeld ?_ ?_
    rotate_left
    · rintro w' ⟨⟨s0, s1⟩, sc⟩
      go_simp
      with_reducible rfl
    rotate_left
    · simp only [Act.put, List.setIfInBounds_toArray, List.set_cons_zero, List.set_cons_succ, i64_w, i32_w]
      rfl
    refine take_ (i := 7) (N := some 16) (v := ?_) (a' := ?_) #[true, true, true, true, true, true, true, true, true, true, true, false, false, false, false, false, false, false, false] rfl rfl (by kernel_rfl) (fun _ _ _ h => h) (Or.inl ⟨by rfl, ?_⟩) hHeld ?_ ?_
    rotate_left
    · rintro w' ⟨⟨s0, s1⟩, sc⟩
      go_simp
      with_reducible rfl
    rotate_left
    · simp only [Act.put, List.setIfInBounds_toArray, List.set_cons_zero, List.set_cons_succ, i64_w, i32_w]
      rfl
    refine take_ (i := 11) (N := some 20) (v := ?_) (a' := ?_) #[true, true, true, true, true, true, true, true, true, true, true, true, false, false, false, false, false, false, false] rfl rfl (by kernel_rfl) (fun _ _ _ h => h) (Or.inl ⟨by rfl, ?_⟩) hHeld ?_ ?_
    rotate_left
    · rintro w' ⟨⟨s0, s1⟩, sc⟩
      go_simp
      with_reducible rfl
    rotate_left
    · simp only [Act.put, List.setIfInBounds_toArray, List.set_cons_zero, List.set_cons_succ, i64_w, i32_w]
      rfl
    refine pure_ (i := 12) (N := some 21) (v := ?_) (a' := ?_) #[true, true, true, true, true, true, true, true, true, true, true, true, true, false, false, false, false, false, false] rfl rfl (by kernel_rfl) (fun _ _ _ h => h) (Or.inl ⟨by rfl, ?_⟩) ?_ ?_
    rotate_left
    · intro w'
      go_simp
      with_reducible rfl
    rotate_left
    · simp only [Act.put, List.setIfInBounds_toArray, List.set_cons_zero, List.set_cons_succ, i64_w, i32_w]
      rfl
    refine pure_ (i := 13) (N := some 22) (v := ?_) (a' := ?_) #[true, true, true, true, true, true, true, true, true, true, true, true, true, true, false, false, false, false, false] rfl rfl (by kernel_rfl) (fun _ _ _ h => h) (Or.inl ⟨by rfl, ?_⟩) ?_ ?_
    rotate_left
    · intro w'
      go_simp
      with_reducible rfl
    rotate_left
    · simp only [Act.put, List.setIfInBounds_toArray, List.set_cons_zero, List.set_cons_succ, i64_w, i32_w]
      rfl
    refine pure_ (i := 14) (N := some 23) (v := ?_) (a' := ?_) #[true, true, true, true, true, true, true, true, true, true, true, true, true, true, true, false, false, false, false] rfl rfl (by kernel_rfl) (fun _ _ _ h => h) (Or.inl ⟨by rfl, ?_⟩) ?_ ?_
    rotate_left
    · intro w'
      go_simp
      with_reducible rfl
    rotate_left
    · simp only [Act.put, List.setIfInBounds_toArray, List.set_cons_zero, List.set_cons_succ, i64_w, i32_w]
      rfl
    refine take_ (i := 15) (N := some 24) (v := ?_) (a' := ?_) #[true, true, true, true, true, true, true, true, true, true, true, true, true, true, true, true, false, false, false] rfl rfl (by kernel_rfl) (fun _ _ _ h => h) (Or.inl ⟨by rfl, ?_⟩) hHeld ?_ ?_
    rotate_left
    · rintro w' ⟨⟨s0, s1⟩, sc⟩
      go_simp
      with_reducible rfl
    rotate_left
    · simp only [Act.put, List.setIfInBounds_toArray, List.set_cons_zero, List.set_cons_succ, i64_w, i32_w]
      rfl
    refine two_ (i := 16) (j := 17) (Ni := some 25) (Nj := some 3) #[true, true, true, true, true, true, true, true, true, true, true, true, true, true, true, true, true, false, false] #[true, true, true, true, true, true, true, true, true, true, true, true, true, true, true, true, false, true, false] rfl rfl rfl rfl (by kernel_rfl) (by decide) (by decide) (fun K hK => ?_) (fun K hK => ?_)
    ·
      refine goes_ Try.func49 (by kernel_rfl) rfl #[.int .i64 limit, .string (H.extract 0 m)] (by rfl) rfl rfl (by simp [Act.eval]) ?_
      refine (HL.out _).mono ?_
      rintro en w5 ⟨rfl, b5⟩
      have b5' : Below w.heap.size w w5 := ⟨b5.os, b5.tape, b5.output, b5.size, b5.block⟩
      refine ⟨_, rfl, ?_⟩
      refine hK.out _ _ ⟨⟨((HME.out _ b5').cell 0).trans rfl, ((HME.out _ b5').cell 1).trans rfl⟩, HCV.out _ b5'⟩ (fun hHeld => ?_)
      clear hK K
      refine norm_ (a' := ?_) ?_ ?_
      rotate_left
      · show Act.put _ (some 25) _ = _
        simp only [Act.put, List.setIfInBounds_toArray, List.set_cons_zero, List.set_cons_succ, i64_w, i32_w]
        rfl
      have b6 : Below w.heap.size w (w5.alloc (.cells #[.int .i64 0, .int .i64 0, .int .i64 0] 97)) := b5'.alloc b5'.size _
      refine one_ (i := 17) (N := some 3) #[true, true, true, true, true, true, true, true, true, true, true, true, true, true, true, true, true, true, false] rfl rfl (by kernel_rfl) (by decide) (fun K hK => ?_)
      refine value_ (w1 := ?_) (v := ?_) (by rfl) rfl ?_ ?_
      rotate_left 2
      · go_simp
        constructor
        · rfl
        · rfl
      refine hK.out _ _ ⟨⟨((HME.out _ b6).cell 0).trans rfl, ((HME.out _ b6).cell 1).trans rfl⟩, HCV.out _ b6⟩ (fun hHeld => ?_)
      clear hK K
      refine norm_ (a' := ?_) ?_ ?_
      rotate_left
      · show Act.put _ (some 3) _ = _
        simp only [Act.put, List.setIfInBounds_toArray, List.set_cons_zero, List.set_cons_succ, i64_w, i32_w]
        rfl
      refine last_ (i := 18) (N := none) #[true, true, true, true, true, true, true, true, true, true, true, true, true, true, true, true, true, true, true] rfl rfl (by kernel_rfl) (by decide) (fun K hK => ?_)
      refine skip_ (w1 := ?_) (by rfl) rfl ?_ ?_
      rotate_left
      · go_simp
        rfl
      refine hK.out _ _ ?_
      clear hK K
      refine done_ (by kernel_rfl) ?_
      go_wp2_with fail
      go_meet
      case rel => exact ⟨_, rfl, b5'.size, At.new _ _ _, b5'.alloc b5'.size _⟩
    ·
      refine value_ (w1 := ?_) (v := ?_) (by rfl) rfl ?_ ?_
      rotate_left 2
      · go_simp
        constructor
        · rfl
        · rfl
      have b5 : Below w.heap.size w (w.drew.alloc (.cells #[.int .i64 0, .int .i64 0, .int .i64 0] 97)) := b0.alloc b0.size _
      refine hK.out _ _ ⟨⟨((HME.out _ b5).cell 0).trans rfl, ((HME.out _ b5).cell 1).trans rfl⟩, HCV.out _ b5⟩ (fun hHeld => ?_)
      clear hK K
      refine norm_ (a' := ?_) ?_ ?_
      rotate_left
      · show Act.put _ (some 3) _ = _
        simp only [Act.put, List.setIfInBounds_toArray, List.set_cons_zero, List.set_cons_succ, i64_w, i32_w]
        rfl
      refine one_ (i := 16) (N := some 25) #[true, true, true, true, true, true, true, true, true, true, true, true, true, true, true, true, true, true, false] rfl rfl (by kernel_rfl) (by decide) (fun K hK => ?_)
      refine goes_ Try.func49 (by kernel_rfl) rfl #[.int .i64 limit, .string (H.extract 0 m)] (by rfl) rfl rfl (by simp [Act.eval]) ?_
      refine (HL.out _).mono ?_
      rintro en w5 ⟨rfl, b6⟩
      have a5 : At w5 w.heap.size 97 #[.int .i64 0, .int .i64 0, .int .i64 0] := (At.new w.drew 97 #[.int .i64 0, .int .i64 0, .int .i64 0]).below b6 (At.new w.drew 97 #[.int .i64 0, .int .i64 0, .int .i64 0]).lt
      have b5' : Below w.heap.size w w5 := b5.trans (b6.mono b5.size)
      refine ⟨_, rfl, ?_⟩
      refine hK.out _ _ ⟨⟨((HME.out _ b5').cell 0).trans rfl, ((HME.out _ b5').cell 1).trans rfl⟩, HCV.out _ b5'⟩ (fun hHeld => ?_)
      clear hK K
      refine norm_ (a' := ?_) ?_ ?_
      rotate_left
      · show Act.put _ (some 25) _ = _
        simp only [Act.put, List.setIfInBounds_toArray, List.set_cons_zero, List.set_cons_succ, i64_w, i32_w]
        rfl
      refine last_ (i := 18) (N := none) #[true, true, true, true, true, true, true, true, true, true, true, true, true, true, true, true, true, true, true] rfl rfl (by kernel_rfl) (by decide) (fun K hK => ?_)
      have x0 : w5.cell? ⟨w.heap.size, 0, none⟩ = some (.int .i64 0) := (a5.cell 0).trans rfl
      have x1 : w5.cell? ⟨w.heap.size, 1, none⟩ = some (.int .i64 0) := (a5.cell 1).trans rfl
      have x2 : w5.cell? ⟨w.heap.size, 2, none⟩ = some (.int .i64 0) := (a5.cell 2).trans rfl
      have y0 : w5.frozen? ⟨w.heap.size, 0, none⟩ = false := a5.free 0
      have y1 : w5.frozen? ⟨w.heap.size, 1, none⟩ = false := a5.free 1
      have y2 : w5.frozen? ⟨w.heap.size, 2, none⟩ = false := a5.free 2
      have A5 := Lib.hid a5
      have B5 := Lib.hid b5'
      clear a5 b5' b5 b6 b0
      refine skip_ (w1 := ?_) (by rfl) rfl ?_ ?_
      rotate_left
      · go_simp
        rfl
      refine hK.out _ _ ?_
      clear hK K
      refine done_ (by kernel_rfl) ?_
      go_wp2_with fail
      go_meet
      case rel => exact ⟨_, rfl, Nat.le_refl _, ((A5.out.set 0 _).set 1 _).set 2 _, (((B5.out.setCell (by simp) _).setCell (by simp) _).setCell (by simp) _)⟩
  case rest =>
    obtain ⟨b, rfl, hb, aH, bW⟩ := hcut
    have c1 := ((HME.out _ bW).cell 1).trans rfl
    have a0 := (aH.cell 0).trans rfl
    have a1 := (aH.cell 1).trans rfl
    have a2 := (aH.cell 2).trans rfl
    clear hcut2 hmn m0 m1 m3
    go_wp2_with fail
    go_region_with (go_at_call 50; refine (HN.out _).mono ?_; rintro en w6 ⟨rfl, b6⟩)
    all_goals
      go_wp2_with fail
      go_ret
      exact ⟨rfl, bW.trans ((⟨b6.os, b6.tape, b6.output, b6.size, b6.block⟩ : Below wc.heap.size wc w6).mono bW.size)⟩
theorem Need_st (w : World) (B g : Nat) (v : Value) (limit : Int) (pre : ByteArray) (h : FrSt w B g v limit pre) (hs : pre.size ≤ 16777216) :
    Calls Try.prog 28 #[.pointer (some ⟨g, 0, none⟩)] w fun en w' => en = .returned (.int .i64 (if (cutAt limit pre 0).2.2 = 0 then needS limit (keptS pre (cutAt limit pre 0)) else 0)) ∧ Below w.heap.size w w' := by
  have hk := kept_size limit pre
  by_cases he : (cutAt limit pre 0).2.2 = 0
  · have h1 : FrAt w B g v limit (keptS pre (cutAt limit pre 0)) (cutAt limit pre 0).2.1 0 := by
      have := h
      unfold FrSt at this
      rw [he] at this
      exact this
    rw [if_pos he]
    exact FrNeed_ok w B g v limit _ _ h1 (by omega)
  · rw [if_neg he]
    exact FrNeed_err w B g v limit _ _ _ h he
end Go.Proofs.Ytcjlpedpiljnmaa.W
