/- Walks of the document's framer (rosterref03.Framer): it keeps all bytes that ever came. (Printed by wip/tools/mk_fr.py.) -/
import Derived.Test.YtcjlpedpiljnmaaFd4
import Derived.Test.YtcjlpedpiljnmaaFRs
import Derived.Test.YtcjlpedpiljnmaaFq
namespace Go.Proofs.Ytcjlpedpiljnmaa.W
open Go.RowKit Go.Proofs.YtcjlpedpiljnmaaW.PrintWords Go.Proofs.YtcjlpedpiljnmaaW.PrintLast
set_option linter.unusedVariables false
set_option linter.unusedSimpArgs false

/-- The document's framer at g, to which pre has come. -/
def RfAt (w : World) (g : Nat) (limit : Int) (pre : ByteArray) : Prop := At w g 106 #[.int .i64 limit, .string pre, .int .i64 ((cutAt limit pre 0).1.length : Nat)]
theorem RNew_any (limit : Int) (w : World) : Calls Try.prog 24 #[.int .i64 limit] w fun en w' => ∃ g, en = .returned (.pointer (some ⟨g, 0, none⟩)) ∧ w.heap.size ≤ g ∧ RfAt w' g limit ⟨#[]⟩ ∧ Below w.heap.size w w' := by
  go_enter Try.func24, Try.ntmps24
  go_wp2_with fail
  go_ret
  have e : cutAt limit ⟨#[]⟩ 0 = ([], 0, 0) := cutAt_end (Nat.le_refl _)
  refine ⟨_, rfl, Nat.le_refl _, ?_, (Below.refl _ _).alloc (Nat.le_refl _) _⟩
  unfold RfAt
  rw [e]
  exact At.new _ _ _
set_option maxRecDepth 100000 in
set_option maxHeartbeats 4000000 in
theorem RHeld_any (w : World) (g : Nat) (limit : Int) (s : ByteArray) (h : RfAt w g limit s) (zs : s.size ≤ 16777216) :
    Calls Try.prog 54 #[.pointer (some ⟨g, 0, none⟩)] w fun en w' => en = .returned (.int .i64 ((keptS s (cutAt limit s 0)).size : Int)) ∧ Below w.heap.size w w' := by
  have hmem : ∀ V, Below w.heap.size w V → At V g 106 #[.int .i64 limit, .string s, .int .i64 ((cutAt limit s 0).1.length : Nat)] := fun V hV => h.below hV h.lt
  have HME := Lib.hid hmem
  have m0 := (h.cell 0).trans rfl
  have m1 := (h.cell 1).trans rfl
  have l1 := h.lt
  have hpl := cut_place limit s (s.size + 1) 0 (Nat.zero_le _) (by omega)
  clear hmem h
  go_enter Try.func54, Try.ntmps54
  go_upto_region 1 with (fail)
  go_cut [3] from 4 (fun hp wx => ∃ b v0, hp = .pointer (some ⟨b, 0, none⟩) ∧ w.heap.size ≤ b ∧ At wx b 29 #[v0, .int .i64 (cutAt limit s 0).2.1, .int .i64 (cutAt limit s 0).2.2] ∧ Kd.R Kd.string 9 wx w.heap.size (fun _ => True) v0 (cutAt limit s 0).1 ∧ Below w.heap.size w wx)
  case first =>
    have b0 : Below w.heap.size w w.drew := (Below.refl _ _).drew
    refine start_ (n := 11) (S := fun V => V.cell? ⟨g, 0, none⟩ = some (.int .i64 limit) ∧ V.cell? ⟨g, 1, none⟩ = some (.string s)) (ds := [10]) #[false, false, false, false, false, false, false, false, false, false, false] (by kernel_rfl) rfl rfl ⟨((HME.out _ b0).cell 0).trans rfl, ((HME.out _ b0).cell 1).trans rfl⟩ (fun hHeld => ?_)
    refine pure_ (i := 0) (N := some 4) (v := ?_) (a' := ?_) #[true, false, false, false, false, false, false, false, false, false, false] rfl rfl (by kernel_rfl) (fun _ _ _ h => h) (Or.inl ⟨by rfl, ?_⟩) ?_ ?_
    rotate_left
    · intro w'
      go_simp
      with_reducible rfl
    rotate_left
    · simp only [Act.put, List.setIfInBounds_toArray, List.set_cons_zero, List.set_cons_succ, i64_w, i32_w]
      rfl
    refine pure_ (i := 1) (N := some 5) (v := ?_) (a' := ?_) #[true, true, false, false, false, false, false, false, false, false, false] rfl rfl (by kernel_rfl) (fun _ _ _ h => h) (Or.inl ⟨by rfl, ?_⟩) ?_ ?_
    rotate_left
    · intro w'
      go_simp
      with_reducible rfl
    rotate_left
    · simp only [Act.put, List.setIfInBounds_toArray, List.set_cons_zero, List.set_cons_succ, i64_w, i32_w]
      rfl
    refine pure_ (i := 2) (N := some 6) (v := ?_) (a' := ?_) #[true, true, true, false, false, false, false, false, false, false, false] rfl rfl (by kernel_rfl) (fun _ _ _ h => h) (Or.inl ⟨by rfl, ?_⟩) ?_ ?_
    rotate_left
    · intro w'
      go_simp
      with_reducible rfl
    rotate_left
    · simp only [Act.put, List.setIfInBounds_toArray, List.set_cons_zero, List.set_cons_succ, i64_w, i32_w]
      rfl
    refine pure_ (i := 4) (N := some 8) (v := ?_) (a' := ?_) #[true, true, true, false, true, false, false, false, false, false, false] rfl rfl (by kernel_rfl) (fun _ _ _ h => h) (Or.inl ⟨by rfl, ?_⟩) ?_ ?_
    rotate_left
    · intro w'
      go_simp
      with_reducible rfl
    rotate_left
    · simp only [Act.put, List.setIfInBounds_toArray, List.set_cons_zero, List.set_cons_succ, i64_w, i32_w]
      rfl
    refine pure_ (i := 5) (N := some 9) (v := ?_) (a' := ?_) #[true, true, true, false, true, true, false, false, false, false, false] rfl rfl (by kernel_rfl) (fun _ _ _ h => h) (Or.inl ⟨by rfl, ?_⟩) ?_ ?_
    rotate_left
    · intro w'
      go_simp
      with_reducible rfl
    rotate_left
    · simp only [Act.put, List.setIfInBounds_toArray, List.set_cons_zero, List.set_cons_succ, i64_w, i32_w]
      rfl
    refine pure_ (i := 6) (N := some 10) (v := ?_) (a' := ?_) #[true, true, true, false, true, true, true, false, false, false, false] rfl rfl (by kernel_rfl) (fun _ _ _ h => h) (Or.inl ⟨by rfl, ?_⟩) ?_ ?_
    rotate_left
    · intro w'
      go_simp
      with_reducible rfl
    rotate_left
    · simp only [Act.put, List.setIfInBounds_toArray, List.set_cons_zero, List.set_cons_succ, i64_w, i32_w]
      rfl
    refine take_ (i := 3) (N := some 7) (v := ?_) (a' := ?_) #[true, true, true, true, true, true, true, false, false, false, false] rfl rfl (by kernel_rfl) (fun _ _ _ h => h) (Or.inl ⟨by rfl, ?_⟩) hHeld ?_ ?_
    rotate_left
    · rintro w' ⟨s0, s1⟩
      go_simp
      with_reducible rfl
    rotate_left
    · simp only [Act.put, List.setIfInBounds_toArray, List.set_cons_zero, List.set_cons_succ, i64_w, i32_w]
      rfl
    refine take_ (i := 7) (N := some 11) (v := ?_) (a' := ?_) #[true, true, true, true, true, true, true, true, false, false, false] rfl rfl (by kernel_rfl) (fun _ _ _ h => h) (Or.inl ⟨by rfl, ?_⟩) hHeld ?_ ?_
    rotate_left
    · rintro w' ⟨s0, s1⟩
      go_simp
      with_reducible rfl
    rotate_left
    · simp only [Act.put, List.setIfInBounds_toArray, List.set_cons_zero, List.set_cons_succ, i64_w, i32_w]
      rfl
    refine two_ (i := 8) (j := 9) (Ni := some 12) (Nj := some 3) #[true, true, true, true, true, true, true, true, true, false, false] #[true, true, true, true, true, true, true, true, false, true, false] rfl rfl rfl rfl (by kernel_rfl) (by decide) (by decide) (fun K hK => ?_) (fun K hK => ?_)
    ·
      refine goes_ Try.func18 (by kernel_rfl) rfl #[.int .i64 limit, .string s] (by rfl) rfl rfl (by simp [Act.eval]) ?_
      refine (rsplit_any limit s _ zs).mono ?_
      rintro en w5 ⟨v0, rfl, hR, b5⟩
      have b5' : Below w.heap.size w w5 := ⟨b5.os, b5.tape, b5.output, b5.size, b5.block⟩
      refine ⟨_, rfl, ?_⟩
      refine hK.out _ _ ⟨((HME.out _ b5').cell 0).trans rfl, ((HME.out _ b5').cell 1).trans rfl⟩ (fun hHeld => ?_)
      clear hK K
      refine norm_ (a' := ?_) ?_ ?_
      rotate_left
      · show Act.put _ (some 12) _ = _
        simp only [Act.put, List.setIfInBounds_toArray, List.set_cons_zero, List.set_cons_succ, i64_w, i32_w]
        rfl
      have b6 : Below w.heap.size w (w5.alloc (.cells #[.slice none 0 0, .int .i64 0, .int .i64 0] 29)) := b5'.alloc b5'.size _
      refine one_ (i := 9) (N := some 3) #[true, true, true, true, true, true, true, true, true, true, false] rfl rfl (by kernel_rfl) (by decide) (fun K hK => ?_)
      refine value_ (w1 := ?_) (v := ?_) (by rfl) rfl ?_ ?_
      rotate_left 2
      · go_simp
        constructor
        · rfl
        · rfl
      refine hK.out _ _ ⟨((HME.out _ b6).cell 0).trans rfl, ((HME.out _ b6).cell 1).trans rfl⟩ (fun hHeld => ?_)
      clear hK K
      refine norm_ (a' := ?_) ?_ ?_
      rotate_left
      · show Act.put _ (some 3) _ = _
        simp only [Act.put, List.setIfInBounds_toArray, List.set_cons_zero, List.set_cons_succ, i64_w, i32_w]
        rfl
      refine last_ (i := 10) (N := none) #[true, true, true, true, true, true, true, true, true, true, true] rfl rfl (by kernel_rfl) (by decide) (fun K hK => ?_)
      obtain ⟨A5, c5, rfl⟩ := Kd.R_slice hR
      refine skip_ (w1 := ?_) (by rfl) rfl ?_ ?_
      rotate_left
      · go_simp
        rfl
      refine hK.out _ _ ?_
      clear hK K
      refine done_ (by kernel_rfl) ?_
      go_wp2_with fail
      go_meet
      case rel => exact ⟨_, _, rfl, b5'.size, At.new _ _ _, Kd.R_alloc hR _, b5'.alloc b5'.size _⟩
    ·
      refine value_ (w1 := ?_) (v := ?_) (by rfl) rfl ?_ ?_
      rotate_left 2
      · go_simp
        constructor
        · rfl
        · rfl
      have b5 : Below w.heap.size w (w.drew.alloc (.cells #[.slice none 0 0, .int .i64 0, .int .i64 0] 29)) := b0.alloc b0.size _
      refine hK.out _ _ ⟨((HME.out _ b5).cell 0).trans rfl, ((HME.out _ b5).cell 1).trans rfl⟩ (fun hHeld => ?_)
      clear hK K
      refine norm_ (a' := ?_) ?_ ?_
      rotate_left
      · show Act.put _ (some 3) _ = _
        simp only [Act.put, List.setIfInBounds_toArray, List.set_cons_zero, List.set_cons_succ, i64_w, i32_w]
        rfl
      refine one_ (i := 8) (N := some 12) #[true, true, true, true, true, true, true, true, true, true, false] rfl rfl (by kernel_rfl) (by decide) (fun K hK => ?_)
      refine goes_ Try.func18 (by kernel_rfl) rfl #[.int .i64 limit, .string s] (by rfl) rfl rfl (by simp [Act.eval]) ?_
      refine (rsplit_any limit s _ zs).mono ?_
      rintro en w5 ⟨v0, rfl, hR, b6⟩
      have a5 : At w5 w.heap.size 29 #[.slice none 0 0, .int .i64 0, .int .i64 0] := (At.new w.drew 29 #[.slice none 0 0, .int .i64 0, .int .i64 0]).below b6 (At.new w.drew 29 #[.slice none 0 0, .int .i64 0, .int .i64 0]).lt
      have b5' : Below w.heap.size w w5 := b5.trans (b6.mono b5.size)
      refine ⟨_, rfl, ?_⟩
      refine hK.out _ _ ⟨((HME.out _ b5').cell 0).trans rfl, ((HME.out _ b5').cell 1).trans rfl⟩ (fun hHeld => ?_)
      clear hK K
      refine norm_ (a' := ?_) ?_ ?_
      rotate_left
      · show Act.put _ (some 12) _ = _
        simp only [Act.put, List.setIfInBounds_toArray, List.set_cons_zero, List.set_cons_succ, i64_w, i32_w]
        rfl
      refine last_ (i := 10) (N := none) #[true, true, true, true, true, true, true, true, true, true, true] rfl rfl (by kernel_rfl) (by decide) (fun K hK => ?_)
      obtain ⟨A5v, c5v, rfl⟩ := Kd.R_slice hR
      have x0 : w5.cell? ⟨w.heap.size, 0, none⟩ = some (.slice none 0 0) := (a5.cell 0).trans rfl
      have x1 : w5.cell? ⟨w.heap.size, 1, none⟩ = some (.int .i64 0) := (a5.cell 1).trans rfl
      have x2 : w5.cell? ⟨w.heap.size, 2, none⟩ = some (.int .i64 0) := (a5.cell 2).trans rfl
      have y0 : w5.frozen? ⟨w.heap.size, 0, none⟩ = false := a5.free 0
      have y1 : w5.frozen? ⟨w.heap.size, 1, none⟩ = false := a5.free 1
      have y2 : w5.frozen? ⟨w.heap.size, 2, none⟩ = false := a5.free 2
      have A5 := Lib.hid a5
      have B5 := Lib.hid b5'
      have HR5 := Lib.hid hR
      have HS6 : w.heap.size ≤ w5.heap.size := b5'.size
      have hR5 := Kd.R_lower (base' := w.heap.size) hR (by show w.heap.size ≤ (w.drew.alloc _).heap.size; simp)
      have hR6 : Kd.R Kd.string 9 w5 w.heap.size (fun _ => True) (.slice A5v (cutAt limit s 0).1.length c5v) (cutAt limit s 0).1 := hR5
      have HR6 := Lib.hid hR6
      clear a5 b5' b5 b6 b0 hR hR5 hR6
      refine skip_ (w1 := ?_) (by rfl) rfl ?_ ?_
      rotate_left
      · go_simp
        rfl
      refine hK.out _ _ ?_
      clear hK K
      refine done_ (by kernel_rfl) ?_
      go_wp2_with fail
      go_meet
      case rel => exact ⟨_, _, rfl, Nat.le_refl _, ((A5.out.set 0 _).set 1 _).set 2 _, Kd.R_set (Kd.R_set (Kd.R_set HR6.out A5.out (by decide) 0 _) (A5.out.set 0 _) (by decide) 1 _) ((A5.out.set 0 _).set 1 _) (by decide) 2 _, (((B5.out.setCell (by simp) _).setCell (by simp) _).setCell (by simp) _)⟩
  case rest =>
    obtain ⟨b, v0, rfl, hb, aH, rR, bW⟩ := hcut
    obtain ⟨A0, c0, rfl⟩ := Kd.R_slice rR
    have aG := HME.out _ bW
    have g0 := (aG.cell 0).trans rfl
    have g1 := (aG.cell 1).trans rfl
    have b1 := (aH.cell 1).trans rfl
    have b2 := (aH.cell 2).trans rfl
    clear m0 m1 l1
    by_cases he : (cutAt limit s 0).2.2 = 0
    · have hk : ((keptS s (cutAt limit s 0)).size : Int) = s.size - (cutAt limit s 0).2.1 := by
        unfold keptS
        rw [if_pos he, ByteArray.size_extract]
        omega
      have heb : ((cutAt limit s 0).2.2 != 0) = false := by simp [he]
      have HK := Lib.hid hk
      have ews : IntKind.i64.wrap ((s.size : Int) - (cutAt limit s 0).2.1) = s.size - (cutAt limit s 0).2.1 := IntWalk.i64_in _ (by omega)
      clear hk he
      generalize (cutAt limit s 0).2.1 = p at *
      generalize (cutAt limit s 0).2.2 = e at *
      go_wp2_with fail
      go_quiet (fail)
      go_wp2_with fail
      go_ret
      rw [HK.out]
      exact ⟨rfl, below_draws bW _⟩
    · have hk : ((keptS s (cutAt limit s 0)).size : Int) = 0 := by
        unfold keptS
        rw [if_neg he]
        rfl
      have heb : ((cutAt limit s 0).2.2 != 0) = true := by simp [he]
      have HK := Lib.hid hk
      clear hk he
      generalize (cutAt limit s 0).2.2 = e at *
      go_wp2_with fail
      go_ret
      rw [HK.out]
      exact ⟨rfl, bW⟩
set_option maxRecDepth 100000 in
set_option maxHeartbeats 4000000 in
theorem RNeed_any (w : World) (g : Nat) (limit : Int) (s : ByteArray) (h : RfAt w g limit s) (zs : s.size ≤ 16777216) :
    Calls Try.prog 55 #[.pointer (some ⟨g, 0, none⟩)] w fun en w' => en = .returned (.int .i64 (if (cutAt limit s 0).2.2 = 0 then needS limit (keptS s (cutAt limit s 0)) else 0)) ∧ Below w.heap.size w w' := by
  have hmem : ∀ V, Below w.heap.size w V → At V g 106 #[.int .i64 limit, .string s, .int .i64 ((cutAt limit s 0).1.length : Nat)] := fun V hV => h.below hV h.lt
  have HME := Lib.hid hmem
  have m0 := (h.cell 0).trans rfl
  have m1 := (h.cell 1).trans rfl
  have l1 := h.lt
  have hpl := cut_place limit s (s.size + 1) 0 (Nat.zero_le _) (by omega)
  clear hmem h
  go_enter Try.func55, Try.ntmps55
  go_upto_region 1 with (fail)
  go_cut [3] from 4 (fun hp wx => ∃ b v0, hp = .pointer (some ⟨b, 0, none⟩) ∧ w.heap.size ≤ b ∧ At wx b 29 #[v0, .int .i64 (cutAt limit s 0).2.1, .int .i64 (cutAt limit s 0).2.2] ∧ Kd.R Kd.string 9 wx w.heap.size (fun _ => True) v0 (cutAt limit s 0).1 ∧ Below w.heap.size w wx)
  case first =>
    have b0 : Below w.heap.size w w.drew := (Below.refl _ _).drew
    refine start_ (n := 11) (S := fun V => V.cell? ⟨g, 0, none⟩ = some (.int .i64 limit) ∧ V.cell? ⟨g, 1, none⟩ = some (.string s)) (ds := [10]) #[false, false, false, false, false, false, false, false, false, false, false] (by kernel_rfl) rfl rfl ⟨((HME.out _ b0).cell 0).trans rfl, ((HME.out _ b0).cell 1).trans rfl⟩ (fun hHeld => ?_)
    refine pure_ (i := 0) (N := some 4) (v := ?_) (a' := ?_) #[true, false, false, false, false, false, false, false, false, false, false] rfl rfl (by kernel_rfl) (fun _ _ _ h => h) (Or.inl ⟨by rfl, ?_⟩) ?_ ?_
    rotate_left
    · intro w'
      go_simp
      with_reducible rfl
    rotate_left
    · simp only [Act.put, List.setIfInBounds_toArray, List.set_cons_zero, List.set_cons_succ, i64_w, i32_w]
      rfl
    refine pure_ (i := 1) (N := some 5) (v := ?_) (a' := ?_) #[true, true, false, false, false, false, false, false, false, false, false] rfl rfl (by kernel_rfl) (fun _ _ _ h => h) (Or.inl ⟨by rfl, ?_⟩) ?_ ?_
    rotate_left
    · intro w'
      go_simp
      with_reducible rfl
    rotate_left
    · simp only [Act.put, List.setIfInBounds_toArray, List.set_cons_zero, List.set_cons_succ, i64_w, i32_w]
      rfl
    refine pure_ (i := 2) (N := some 6) (v := ?_) (a' := ?_) #[true, true, true, false, false, false, false, false, false, false, false] rfl rfl (by kernel_rfl) (fun _ _ _ h => h) (Or.inl ⟨by rfl, ?_⟩) ?_ ?_
    rotate_left
    · intro w'
      go_simp
      with_reducible rfl
    rotate_left
    · simp only [Act.put, List.setIfInBounds_toArray, List.set_cons_zero, List.set_cons_succ, i64_w, i32_w]
      rfl
    refine pure_ (i := 4) (N := some 8) (v := ?_) (a' := ?_) #[true, true, true, false, true, false, false, false, false, false, false] rfl rfl (by kernel_rfl) (fun _ _ _ h => h) (Or.inl ⟨by rfl, ?_⟩) ?_ ?_
    rotate_left
    · intro w'
      go_simp
      with_reducible rfl
    rotate_left
    · simp only [Act.put, List.setIfInBounds_toArray, List.set_cons_zero, List.set_cons_succ, i64_w, i32_w]
      rfl
    refine pure_ (i := 5) (N := some 9) (v := ?_) (a' := ?_) #[true, true, true, false, true, true, false, false, false, false, false] rfl rfl (by kernel_rfl) (fun _ _ _ h => h) (Or.inl ⟨by rfl, ?_⟩) ?_ ?_
    rotate_left
    · intro w'
      go_simp
      with_reducible rfl
    rotate_left
    · simp only [Act.put, List.setIfInBounds_toArray, List.set_cons_zero, List.set_cons_succ, i64_w, i32_w]
      rfl
    refine pure_ (i := 6) (N := some 10) (v := ?_) (a' := ?_) #[true, true, true, false, true, true, true, false, false, false, false] rfl rfl (by kernel_rfl) (fun _ _ _ h => h) (Or.inl ⟨by rfl, ?_⟩) ?_ ?_
    rotate_left
    · intro w'
      go_simp
      with_reducible rfl
    rotate_left
    · simp only [Act.put, List.setIfInBounds_toArray, List.set_cons_zero, List.set_cons_succ, i64_w, i32_w]
      rfl
    refine take_ (i := 3) (N := some 7) (v := ?_) (a' := ?_) #[true, true, true, true, true, true, true, false, false, false, false] rfl rfl (by kernel_rfl) (fun _ _ _ h => h) (Or.inl ⟨by rfl, ?_⟩) hHeld ?_ ?_
    rotate_left
    · rintro w' ⟨s0, s1⟩
      go_simp
      with_reducible rfl
    rotate_left
    · simp only [Act.put, List.setIfInBounds_toArray, List.set_cons_zero, List.set_cons_succ, i64_w, i32_w]
      rfl
    refine take_ (i := 7) (N := some 11) (v := ?_) (a' := ?_) #[true, true, true, true, true, true, true, true, false, false, false] rfl rfl (by kernel_rfl) (fun _ _ _ h => h) (Or.inl ⟨by rfl, ?_⟩) hHeld ?_ ?_
    rotate_left
    · rintro w' ⟨s0, s1⟩
      go_simp
      with_reducible rfl
    rotate_left
    · simp only [Act.put, List.setIfInBounds_toArray, List.set_cons_zero, List.set_cons_succ, i64_w, i32_w]
      rfl
    refine two_ (i := 8) (j := 9) (Ni := some 12) (Nj := some 3) #[true, true, true, true, true, true, true, true, true, false, false] #[true, true, true, true, true, true, true, true, false, true, false] rfl rfl rfl rfl (by kernel_rfl) (by decide) (by decide) (fun K hK => ?_) (fun K hK => ?_)
    ·
      refine goes_ Try.func18 (by kernel_rfl) rfl #[.int .i64 limit, .string s] (by rfl) rfl rfl (by simp [Act.eval]) ?_
      refine (rsplit_any limit s _ zs).mono ?_
      rintro en w5 ⟨v0, rfl, hR, b5⟩
      have b5' : Below w.heap.size w w5 := ⟨b5.os, b5.tape, b5.output, b5.size, b5.block⟩
      refine ⟨_, rfl, ?_⟩
      refine hK.out _ _ ⟨((HME.out _ b5').cell 0).trans rfl, ((HME.out _ b5').cell 1).trans rfl⟩ (fun hHeld => ?_)
      clear hK K
      refine norm_ (a' := ?_) ?_ ?_
      rotate_left
      · show Act.put _ (some 12) _ = _
        simp only [Act.put, List.setIfInBounds_toArray, List.set_cons_zero, List.set_cons_succ, i64_w, i32_w]
        rfl
      have b6 : Below w.heap.size w (w5.alloc (.cells #[.slice none 0 0, .int .i64 0, .int .i64 0] 29)) := b5'.alloc b5'.size _
      refine one_ (i := 9) (N := some 3) #[true, true, true, true, true, true, true, true, true, true, false] rfl rfl (by kernel_rfl) (by decide) (fun K hK => ?_)
      refine value_ (w1 := ?_) (v := ?_) (by rfl) rfl ?_ ?_
      rotate_left 2
      · go_simp
        constructor
        · rfl
        · rfl
      refine hK.out _ _ ⟨((HME.out _ b6).cell 0).trans rfl, ((HME.out _ b6).cell 1).trans rfl⟩ (fun hHeld => ?_)
      clear hK K
      refine norm_ (a' := ?_) ?_ ?_
      rotate_left
      · show Act.put _ (some 3) _ = _
        simp only [Act.put, List.setIfInBounds_toArray, List.set_cons_zero, List.set_cons_succ, i64_w, i32_w]
        rfl
      refine last_ (i := 10) (N := none) #[true, true, true, true, true, true, true, true, true, true, true] rfl rfl (by kernel_rfl) (by decide) (fun K hK => ?_)
      obtain ⟨A5, c5, rfl⟩ := Kd.R_slice hR
      refine skip_ (w1 := ?_) (by rfl) rfl ?_ ?_
      rotate_left
      · go_simp
        rfl
      refine hK.out _ _ ?_
      clear hK K
      refine done_ (by kernel_rfl) ?_
      go_wp2_with fail
      go_meet
      case rel => exact ⟨_, _, rfl, b5'.size, At.new _ _ _, Kd.R_alloc hR _, b5'.alloc b5'.size _⟩
    ·
      refine value_ (w1 := ?_) (v := ?_) (by rfl) rfl ?_ ?_
      rotate_left 2
      · go_simp
        constructor
        · rfl
        · rfl
      have b5 : Below w.heap.size w (w.drew.alloc (.cells #[.slice none 0 0, .int .i64 0, .int .i64 0] 29)) := b0.alloc b0.size _
      refine hK.out _ _ ⟨((HME.out _ b5).cell 0).trans rfl, ((HME.out _ b5).cell 1).trans rfl⟩ (fun hHeld => ?_)
      clear hK K
      refine norm_ (a' := ?_) ?_ ?_
      rotate_left
      · show Act.put _ (some 3) _ = _
        simp only [Act.put, List.setIfInBounds_toArray, List.set_cons_zero, List.set_cons_succ, i64_w, i32_w]
        rfl
      refine one_ (i := 8) (N := some 12) #[true, true, true, true, true, true, true, true, true, true, false] rfl rfl (by kernel_rfl) (by decide) (fun K hK => ?_)
      refine goes_ Try.func18 (by kernel_rfl) rfl #[.int .i64 limit, .string s] (by rfl) rfl rfl (by simp [Act.eval]) ?_
      refine (rsplit_any limit s _ zs).mono ?_
      rintro en w5 ⟨v0, rfl, hR, b6⟩
      have a5 : At w5 w.heap.size 29 #[.slice none 0 0, .int .i64 0, .int .i64 0] := (At.new w.drew 29 #[.slice none 0 0, .int .i64 0, .int .i64 0]).below b6 (At.new w.drew 29 #[.slice none 0 0, .int .i64 0, .int .i64 0]).lt
      have b5' : Below w.heap.size w w5 := b5.trans (b6.mono b5.size)
      refine ⟨_, rfl, ?_⟩
      refine hK.out _ _ ⟨((HME.out _ b5').cell 0).trans rfl, ((HME.out _ b5').cell 1).trans rfl⟩ (fun hHeld => ?_)
      clear hK K
      refine norm_ (a' := ?_) ?_ ?_
      rotate_left
      · show Act.put _ (some 12) _ = _
        simp only [Act.put, List.setIfInBounds_toArray, List.set_cons_zero, List.set_cons_succ, i64_w, i32_w]
        rfl
      refine last_ (i := 10) (N := none) #[true, true, true, true, true, true, true, true, true, true, true] rfl rfl (by kernel_rfl) (by decide) (fun K hK => ?_)
      obtain ⟨A5v, c5v, rfl⟩ := Kd.R_slice hR
      have x0 : w5.cell? ⟨w.heap.size, 0, none⟩ = some (.slice none 0 0) := (a5.cell 0).trans rfl
      have x1 : w5.cell? ⟨w.heap.size, 1, none⟩ = some (.int .i64 0) := (a5.cell 1).trans rfl
      have x2 : w5.cell? ⟨w.heap.size, 2, none⟩ = some (.int .i64 0) := (a5.cell 2).trans rfl
      have y0 : w5.frozen? ⟨w.heap.size, 0, none⟩ = false := a5.free 0
      have y1 : w5.frozen? ⟨w.heap.size, 1, none⟩ = false := a5.free 1
      have y2 : w5.frozen? ⟨w.heap.size, 2, none⟩ = false := a5.free 2
      have A5 := Lib.hid a5
      have B5 := Lib.hid b5'
      have HR5 := Lib.hid hR
      have HS6 : w.heap.size ≤ w5.heap.size := b5'.size
      have hR5 := Kd.R_lower (base' := w.heap.size) hR (by show w.heap.size ≤ (w.drew.alloc _).heap.size; simp)
      have hR6 : Kd.R Kd.string 9 w5 w.heap.size (fun _ => True) (.slice A5v (cutAt limit s 0).1.length c5v) (cutAt limit s 0).1 := hR5
      have HR6 := Lib.hid hR6
      clear a5 b5' b5 b6 b0 hR hR5 hR6
      refine skip_ (w1 := ?_) (by rfl) rfl ?_ ?_
      rotate_left
      · go_simp
        rfl
      refine hK.out _ _ ?_
      clear hK K
      refine done_ (by kernel_rfl) ?_
      go_wp2_with fail
      go_meet
      case rel => exact ⟨_, _, rfl, Nat.le_refl _, ((A5.out.set 0 _).set 1 _).set 2 _, Kd.R_set (Kd.R_set (Kd.R_set HR6.out A5.out (by decide) 0 _) (A5.out.set 0 _) (by decide) 1 _) ((A5.out.set 0 _).set 1 _) (by decide) 2 _, (((B5.out.setCell (by simp) _).setCell (by simp) _).setCell (by simp) _)⟩
  case rest =>
    obtain ⟨b, v0, rfl, hb, aH, rR, bW⟩ := hcut
    obtain ⟨A0, c0, rfl⟩ := Kd.R_slice rR
    have aG := HME.out _ bW
    have g0 := (aG.cell 0).trans rfl
    have g1 := (aG.cell 1).trans rfl
    have b1 := (aH.cell 1).trans rfl
    have b2 := (aH.cell 2).trans rfl
    clear m0 m1 l1
    by_cases he : (cutAt limit s 0).2.2 = 0
    · have hk : keptS s (cutAt limit s 0) = s.extract (cutAt limit s 0).2.1.toNat s.size := by unfold keptS; rw [if_pos he]
      have heb : ((cutAt limit s 0).2.2 != 0) = false := by simp [he]
      obtain ⟨p, hp⟩ : ∃ p : Nat, (cutAt limit s 0).2.1 = p := ⟨(cutAt limit s 0).2.1.toNat, by omega⟩
      have hfin : needS limit (keptS s (cutAt limit s 0)) = needS limit (s.extract p s.size) := by rw [hk, hp, Int.toNat_natCast]
      have HE := Lib.hid he
      have HFIN := Lib.hid hfin
      rw [hp] at b1 hpl
      have hN := fun W => rneed_any limit (s.extract p s.size) W (by simp; omega)
      have HN := Lib.hid hN
      have q0 : (0 : Int) ≤ p := by omega
      have q1 : (p : Int) ≤ s.size := by omega
      obtain ⟨e, he'⟩ : ∃ e, e = (cutAt limit s 0).2.2 := ⟨_, rfl⟩
      rw [← he'] at b2 heb
      clear hk he hN hp hfin he'
      go_wp2_with fail
      go_region_with (go_at_call 16; refine (HN.out _).mono ?_; rintro en w6 ⟨rfl, b6⟩)
      all_goals
        go_wp2_with fail
        go_ret
        (try rw [if_pos HE.out])
        rw [HFIN.out]
        exact ⟨rfl, bW.trans ((⟨b6.os, b6.tape, b6.output, b6.size, b6.block⟩ : Below wc.heap.size wc w6).mono bW.size)⟩
    · have heb : ((cutAt limit s 0).2.2 != 0) = true := by simp [he]
      have HE := Lib.hid he
      obtain ⟨e, he'⟩ : ∃ e, e = (cutAt limit s 0).2.2 := ⟨_, rfl⟩
      rw [← he'] at b2 heb
      clear he he'
      go_wp2_with fail
      go_ret
      (try rw [if_neg HE.out])
      exact ⟨rfl, bW⟩
set_option maxRecDepth 100000 in
set_option maxHeartbeats 4000000 in
theorem RFault_any (w : World) (g : Nat) (limit : Int) (s : ByteArray) (h : RfAt w g limit s) (zs : s.size ≤ 16777216) :
    Calls Try.prog 56 #[.pointer (some ⟨g, 0, none⟩)] w fun en w' => en = .returned (.tuple #[.int .i64 (cutAt limit s 0).2.2, .int .i64 (if (cutAt limit s 0).2.2 = 0 then 0 else (cutAt limit s 0).2.1)]) ∧ Below w.heap.size w w' := by
  have hmem : ∀ V, Below w.heap.size w V → At V g 106 #[.int .i64 limit, .string s, .int .i64 ((cutAt limit s 0).1.length : Nat)] := fun V hV => h.below hV h.lt
  have HME := Lib.hid hmem
  have m0 := (h.cell 0).trans rfl
  have m1 := (h.cell 1).trans rfl
  have l1 := h.lt
  have hpl := cut_place limit s (s.size + 1) 0 (Nat.zero_le _) (by omega)
  clear hmem h
  go_enter Try.func56, Try.ntmps56
  go_upto_region 1 with (fail)
  go_cut [4] from 5 (fun hp wx => ∃ b v0, hp = .pointer (some ⟨b, 0, none⟩) ∧ w.heap.size ≤ b ∧ At wx b 29 #[v0, .int .i64 (cutAt limit s 0).2.1, .int .i64 (cutAt limit s 0).2.2] ∧ Kd.R Kd.string 9 wx w.heap.size (fun _ => True) v0 (cutAt limit s 0).1 ∧ Below w.heap.size w wx)
  case first =>
    have b0 : Below w.heap.size w w.drew := (Below.refl _ _).drew
    refine start_ (n := 11) (S := fun V => V.cell? ⟨g, 0, none⟩ = some (.int .i64 limit) ∧ V.cell? ⟨g, 1, none⟩ = some (.string s)) (ds := [10]) #[false, false, false, false, false, false, false, false, false, false, false] (by kernel_rfl) rfl rfl ⟨((HME.out _ b0).cell 0).trans rfl, ((HME.out _ b0).cell 1).trans rfl⟩ (fun hHeld => ?_)
    refine pure_ (i := 0) (N := some 5) (v := ?_) (a' := ?_) #[true, false, false, false, false, false, false, false, false, false, false] rfl rfl (by kernel_rfl) (fun _ _ _ h => h) (Or.inl ⟨by rfl, ?_⟩) ?_ ?_
    rotate_left
    · intro w'
      go_simp
      with_reducible rfl
    rotate_left
    · simp only [Act.put, List.setIfInBounds_toArray, List.set_cons_zero, List.set_cons_succ, i64_w, i32_w]
      rfl
    refine pure_ (i := 1) (N := some 6) (v := ?_) (a' := ?_) #[true, true, false, false, false, false, false, false, false, false, false] rfl rfl (by kernel_rfl) (fun _ _ _ h => h) (Or.inl ⟨by rfl, ?_⟩) ?_ ?_
    rotate_left
    · intro w'
      go_simp
      with_reducible rfl
    rotate_left
    · simp only [Act.put, List.setIfInBounds_toArray, List.set_cons_zero, List.set_cons_succ, i64_w, i32_w]
      rfl
    refine pure_ (i := 2) (N := some 7) (v := ?_) (a' := ?_) #[true, true, true, false, false, false, false, false, false, false, false] rfl rfl (by kernel_rfl) (fun _ _ _ h => h) (Or.inl ⟨by rfl, ?_⟩) ?_ ?_
    rotate_left
    · intro w'
      go_simp
      with_reducible rfl
    rotate_left
    · simp only [Act.put, List.setIfInBounds_toArray, List.set_cons_zero, List.set_cons_succ, i64_w, i32_w]
      rfl
    refine pure_ (i := 4) (N := some 9) (v := ?_) (a' := ?_) #[true, true, true, false, true, false, false, false, false, false, false] rfl rfl (by kernel_rfl) (fun _ _ _ h => h) (Or.inl ⟨by rfl, ?_⟩) ?_ ?_
    rotate_left
    · intro w'
      go_simp
      with_reducible rfl
    rotate_left
    · simp only [Act.put, List.setIfInBounds_toArray, List.set_cons_zero, List.set_cons_succ, i64_w, i32_w]
      rfl
    refine pure_ (i := 5) (N := some 10) (v := ?_) (a' := ?_) #[true, true, true, false, true, true, false, false, false, false, false] rfl rfl (by kernel_rfl) (fun _ _ _ h => h) (Or.inl ⟨by rfl, ?_⟩) ?_ ?_
    rotate_left
    · intro w'
      go_simp
      with_reducible rfl
    rotate_left
    · simp only [Act.put, List.setIfInBounds_toArray, List.set_cons_zero, List.set_cons_succ, i64_w, i32_w]
      rfl
    refine pure_ (i := 6) (N := some 11) (v := ?_) (a' := ?_) #[true, true, true, false, true, true, true, false, false, false, false] rfl rfl (by kernel_rfl) (fun _ _ _ h => h) (Or.inl ⟨by rfl, ?_⟩) ?_ ?_
    rotate_left
    · intro w'
      go_simp
      with_reducible rfl
    rotate_left
    · simp only [Act.put, List.setIfInBounds_toArray, List.set_cons_zero, List.set_cons_succ, i64_w, i32_w]
      rfl
    refine take_ (i := 3) (N := some 8) (v := ?_) (a' := ?_) #[true, true, true, true, true, true, true, false, false, false, false] rfl rfl (by kernel_rfl) (fun _ _ _ h => h) (Or.inl ⟨by rfl, ?_⟩) hHeld ?_ ?_
    rotate_left
    · rintro w' ⟨s0, s1⟩
      go_simp
      with_reducible rfl
    rotate_left
    · simp only [Act.put, List.setIfInBounds_toArray, List.set_cons_zero, List.set_cons_succ, i64_w, i32_w]
      rfl
    refine take_ (i := 7) (N := some 12) (v := ?_) (a' := ?_) #[true, true, true, true, true, true, true, true, false, false, false] rfl rfl (by kernel_rfl) (fun _ _ _ h => h) (Or.inl ⟨by rfl, ?_⟩) hHeld ?_ ?_
    rotate_left
    · rintro w' ⟨s0, s1⟩
      go_simp
      with_reducible rfl
    rotate_left
    · simp only [Act.put, List.setIfInBounds_toArray, List.set_cons_zero, List.set_cons_succ, i64_w, i32_w]
      rfl
    refine two_ (i := 8) (j := 9) (Ni := some 13) (Nj := some 4) #[true, true, true, true, true, true, true, true, true, false, false] #[true, true, true, true, true, true, true, true, false, true, false] rfl rfl rfl rfl (by kernel_rfl) (by decide) (by decide) (fun K hK => ?_) (fun K hK => ?_)
    ·
      refine goes_ Try.func18 (by kernel_rfl) rfl #[.int .i64 limit, .string s] (by rfl) rfl rfl (by simp [Act.eval]) ?_
      refine (rsplit_any limit s _ zs).mono ?_
      rintro en w5 ⟨v0, rfl, hR, b5⟩
      have b5' : Below w.heap.size w w5 := ⟨b5.os, b5.tape, b5.output, b5.size, b5.block⟩
      refine ⟨_, rfl, ?_⟩
      refine hK.out _ _ ⟨((HME.out _ b5').cell 0).trans rfl, ((HME.out _ b5').cell 1).trans rfl⟩ (fun hHeld => ?_)
      clear hK K
      refine norm_ (a' := ?_) ?_ ?_
      rotate_left
      · show Act.put _ (some 13) _ = _
        simp only [Act.put, List.setIfInBounds_toArray, List.set_cons_zero, List.set_cons_succ, i64_w, i32_w]
        rfl
      have b6 : Below w.heap.size w (w5.alloc (.cells #[.slice none 0 0, .int .i64 0, .int .i64 0] 29)) := b5'.alloc b5'.size _
      refine one_ (i := 9) (N := some 4) #[true, true, true, true, true, true, true, true, true, true, false] rfl rfl (by kernel_rfl) (by decide) (fun K hK => ?_)
      refine value_ (w1 := ?_) (v := ?_) (by rfl) rfl ?_ ?_
      rotate_left 2
      · go_simp
        constructor
        · rfl
        · rfl
      refine hK.out _ _ ⟨((HME.out _ b6).cell 0).trans rfl, ((HME.out _ b6).cell 1).trans rfl⟩ (fun hHeld => ?_)
      clear hK K
      refine norm_ (a' := ?_) ?_ ?_
      rotate_left
      · show Act.put _ (some 4) _ = _
        simp only [Act.put, List.setIfInBounds_toArray, List.set_cons_zero, List.set_cons_succ, i64_w, i32_w]
        rfl
      refine last_ (i := 10) (N := none) #[true, true, true, true, true, true, true, true, true, true, true] rfl rfl (by kernel_rfl) (by decide) (fun K hK => ?_)
      obtain ⟨A5, c5, rfl⟩ := Kd.R_slice hR
      refine skip_ (w1 := ?_) (by rfl) rfl ?_ ?_
      rotate_left
      · go_simp
        rfl
      refine hK.out _ _ ?_
      clear hK K
      refine done_ (by kernel_rfl) ?_
      go_wp2_with fail
      go_meet
      case rel => exact ⟨_, _, rfl, b5'.size, At.new _ _ _, Kd.R_alloc hR _, b5'.alloc b5'.size _⟩
    ·
      refine value_ (w1 := ?_) (v := ?_) (by rfl) rfl ?_ ?_
      rotate_left 2
      · go_simp
        constructor
        · rfl
        · rfl
      have b5 : Below w.heap.size w (w.drew.alloc (.cells #[.slice none 0 0, .int .i64 0, .int .i64 0] 29)) := b0.alloc b0.size _
      refine hK.out _ _ ⟨((HME.out _ b5).cell 0).trans rfl, ((HME.out _ b5).cell 1).trans rfl⟩ (fun hHeld => ?_)
      clear hK K
      refine norm_ (a' := ?_) ?_ ?_
      rotate_left
      · show Act.put _ (some 4) _ = _
        simp only [Act.put, List.setIfInBounds_toArray, List.set_cons_zero, List.set_cons_succ, i64_w, i32_w]
        rfl
      refine one_ (i := 8) (N := some 13) #[true, true, true, true, true, true, true, true, true, true, false] rfl rfl (by kernel_rfl) (by decide) (fun K hK => ?_)
      refine goes_ Try.func18 (by kernel_rfl) rfl #[.int .i64 limit, .string s] (by rfl) rfl rfl (by simp [Act.eval]) ?_
      refine (rsplit_any limit s _ zs).mono ?_
      rintro en w5 ⟨v0, rfl, hR, b6⟩
      have a5 : At w5 w.heap.size 29 #[.slice none 0 0, .int .i64 0, .int .i64 0] := (At.new w.drew 29 #[.slice none 0 0, .int .i64 0, .int .i64 0]).below b6 (At.new w.drew 29 #[.slice none 0 0, .int .i64 0, .int .i64 0]).lt
      have b5' : Below w.heap.size w w5 := b5.trans (b6.mono b5.size)
      refine ⟨_, rfl, ?_⟩
      refine hK.out _ _ ⟨((HME.out _ b5').cell 0).trans rfl, ((HME.out _ b5').cell 1).trans rfl⟩ (fun hHeld => ?_)
      clear hK K
      refine norm_ (a' := ?_) ?_ ?_
      rotate_left
      · show Act.put _ (some 13) _ = _
        simp only [Act.put, List.setIfInBounds_toArray, List.set_cons_zero, List.set_cons_succ, i64_w, i32_w]
        rfl
      refine last_ (i := 10) (N := none) #[true, true, true, true, true, true, true, true, true, true, true] rfl rfl (by kernel_rfl) (by decide) (fun K hK => ?_)
      obtain ⟨A5v, c5v, rfl⟩ := Kd.R_slice hR
      have x0 : w5.cell? ⟨w.heap.size, 0, none⟩ = some (.slice none 0 0) := (a5.cell 0).trans rfl
      have x1 : w5.cell? ⟨w.heap.size, 1, none⟩ = some (.int .i64 0) := (a5.cell 1).trans rfl
      have x2 : w5.cell? ⟨w.heap.size, 2, none⟩ = some (.int .i64 0) := (a5.cell 2).trans rfl
      have y0 : w5.frozen? ⟨w.heap.size, 0, none⟩ = false := a5.free 0
      have y1 : w5.frozen? ⟨w.heap.size, 1, none⟩ = false := a5.free 1
      have y2 : w5.frozen? ⟨w.heap.size, 2, none⟩ = false := a5.free 2
      have A5 := Lib.hid a5
      have B5 := Lib.hid b5'
      have HR5 := Lib.hid hR
      have HS6 : w.heap.size ≤ w5.heap.size := b5'.size
      have hR5 := Kd.R_lower (base' := w.heap.size) hR (by show w.heap.size ≤ (w.drew.alloc _).heap.size; simp)
      have hR6 : Kd.R Kd.string 9 w5 w.heap.size (fun _ => True) (.slice A5v (cutAt limit s 0).1.length c5v) (cutAt limit s 0).1 := hR5
      have HR6 := Lib.hid hR6
      clear a5 b5' b5 b6 b0 hR hR5 hR6
      refine skip_ (w1 := ?_) (by rfl) rfl ?_ ?_
      rotate_left
      · go_simp
        rfl
      refine hK.out _ _ ?_
      clear hK K
      refine done_ (by kernel_rfl) ?_
      go_wp2_with fail
      go_meet
      case rel => exact ⟨_, _, rfl, Nat.le_refl _, ((A5.out.set 0 _).set 1 _).set 2 _, Kd.R_set (Kd.R_set (Kd.R_set HR6.out A5.out (by decide) 0 _) (A5.out.set 0 _) (by decide) 1 _) ((A5.out.set 0 _).set 1 _) (by decide) 2 _, (((B5.out.setCell (by simp) _).setCell (by simp) _).setCell (by simp) _)⟩
  case rest =>
    obtain ⟨b, v0, rfl, hb, aH, rR, bW⟩ := hcut
    obtain ⟨A0, c0, rfl⟩ := Kd.R_slice rR
    have aG := HME.out _ bW
    have g0 := (aG.cell 0).trans rfl
    have g1 := (aG.cell 1).trans rfl
    have b1 := (aH.cell 1).trans rfl
    have b2 := (aH.cell 2).trans rfl
    clear m0 m1 l1
    by_cases he : (cutAt limit s 0).2.2 = 0
    · have heb : ((cutAt limit s 0).2.2 != 0) = false := by simp [he]
      have HE := Lib.hid he
      rw [he] at heb b2
      clear he
      go_wp2_with fail
      go_ret2
      (try rw [if_pos HE.out])
      (try rw [HE.out])
      exact ⟨rfl, bW⟩
    · have heb : ((cutAt limit s 0).2.2 != 0) = true := by simp [he]
      have HE := Lib.hid he
      clear he
      go_wp2_with fail
      go_quiet (fail)
      go_wp2_with fail
      go_ret2
      (try rw [if_neg HE.out])
      exact ⟨rfl, below_draws bW _⟩
set_option maxRecDepth 100000 in
set_option maxHeartbeats 4000000 in
theorem RFeed_any (w0 : World) (g : Nat) (limit : Int) (pre u : ByteArray) (h0 : RfAt w0 g limit pre) (zs0 : pre.size + u.size ≤ 16777216) :
    Calls Try.prog 53 #[.pointer (some ⟨g, 0, none⟩), .string u] w0 fun en w' => ∃ v0 m, en = .returned (.tuple #[v0, .int .i64 (cutAt limit (pre ++ u) 0).2.2]) ∧ (cutAt limit (pre ++ u) 0).1 = (cutAt limit pre 0).1 ++ m ∧
      (∃ A c, v0 = .slice A m.length c ∧ m.length ≤ c ∧ ∀ V : World, (∀ i, w0.heap.size ≤ i → i < w'.heap.size → V.heap[i]? = w'.heap[i]?) → Kd.C Kd.string V A m.length m) ∧ RfAt w' g limit (pre ++ u) ∧ w0.grownBy w' (some g) := by
  obtain ⟨m, hm⟩ : ∃ m, (cutAt limit (pre ++ u) 0).1 = (cutAt limit pre 0).1 ++ m := by
    have h := cut_more limit pre u (pre.size + 1) 0 (Nat.zero_le _) (by omega)
    by_cases he : (cutAt limit pre 0).2.2 = 0
    · rw [h.2 he]; exact ⟨_, rfl⟩
    · rw [h.1 he]; exact ⟨[], by simp⟩
  obtain ⟨s, hs⟩ : ∃ s, pre ++ u = s := ⟨_, rfl⟩
  rw [hs] at hm ⊢
  have hsz : s.size = pre.size + u.size := by rw [← hs]; exact ByteArray.size_append
  have zs : s.size ≤ 16777216 := by omega
  have hcat : pre.size + u.size ≤ 9223372036854775807 := by omega
  have hpc := cut_count limit pre (pre.size + 1) 0 (Nat.zero_le _) (by omega)
  have hsc := cut_count limit s (s.size + 1) 0 (Nat.zero_le _) (by omega)
  obtain ⟨k, hk⟩ : ∃ k, k = (cutAt limit pre 0).1.length := ⟨_, rfl⟩
  have hkl : k ≤ (cutAt limit s 0).1.length := by rw [hm, List.length_append]; omega
  have hk0 : h0 = h0 := rfl
  have H0 : At w0 g 106 #[.int .i64 limit, .string pre, .int .i64 (k : Nat)] := by rw [hk]; exact h0
  have m1 := (H0.cell 1).trans rfl
  have f1 := H0.free 1
  have HK := Lib.hid hk
  have HM := Lib.hid hm
  have HH0 := Lib.hid H0
  have kr : (k : Int) ≤ 16777216 := by rw [hk]; omega
  clear hk hm hk0 h0 H0 hsz hpc
  go_enter Try.func53, Try.ntmps53
  go_upto_region 2 with (fail)
  have hmem1 : At (w0.setCell ⟨g, 1, none⟩ (.string s)) g 106 #[.int .i64 limit, .string s, .int .i64 (k : Nat)] := HH0.out.set 1 _
  have hG1 : w0.grownBy (w0.setCell ⟨g, 1, none⟩ (.string s)) (some g) := ⟨rfl, rfl, rfl, by simp [World.setCell], fun i hi hne => Below.heap_setCell w0 ⟨g, 1, none⟩ _ i (fun e => hne (by rw [e]))⟩
  have HG1 := Lib.hid hG1
  have hwz : (w0.setCell ⟨g, 1, none⟩ (.string s)).heap.size = w0.heap.size := by simp [World.setCell]
  have HWZ := Lib.hid hwz
  clear m1 f1 hG1 hwz
  generalize w0.setCell ⟨g, 1, none⟩ (.string s) = w at hmem1 HG1 HWZ ⊢
  have hmem : ∀ V, Below w.heap.size w V → At V g 106 #[.int .i64 limit, .string s, .int .i64 (k : Nat)] := fun V hV => hmem1.below hV hmem1.lt
  have HME := Lib.hid hmem
  have m0 := (hmem1.cell 0).trans rfl
  have m1 := (hmem1.cell 1).trans rfl
  have l1 := hmem1.lt
  clear hmem hmem1
  go_cut [6] from 8 (fun hp wx => ∃ b v0, hp = .pointer (some ⟨b, 0, none⟩) ∧ w.heap.size ≤ b ∧ At wx b 29 #[v0, .int .i64 (cutAt limit s 0).2.1, .int .i64 (cutAt limit s 0).2.2] ∧ Kd.R Kd.string 9 wx w.heap.size (fun _ => True) v0 (cutAt limit s 0).1 ∧ Below w.heap.size w wx)
  case first =>
    have b0 : Below w.heap.size w w.drew := (Below.refl _ _).drew
    refine start_ (n := 11) (S := fun V => V.cell? ⟨g, 0, none⟩ = some (.int .i64 limit) ∧ V.cell? ⟨g, 1, none⟩ = some (.string s)) (ds := [10]) #[false, false, false, false, false, false, false, false, false, false, false] (by kernel_rfl) rfl rfl ⟨((HME.out _ b0).cell 0).trans rfl, ((HME.out _ b0).cell 1).trans rfl⟩ (fun hHeld => ?_)
    refine pure_ (i := 0) (N := some 17) (v := ?_) (a' := ?_) #[true, false, false, false, false, false, false, false, false, false, false] rfl rfl (by kernel_rfl) (fun _ _ _ h => h) (Or.inl ⟨by rfl, ?_⟩) ?_ ?_
    rotate_left
    · intro w'
      go_simp
      with_reducible rfl
    rotate_left
    · simp only [Act.put, List.setIfInBounds_toArray, List.set_cons_zero, List.set_cons_succ, i64_w, i32_w]
      rfl
    refine pure_ (i := 1) (N := some 18) (v := ?_) (a' := ?_) #[true, true, false, false, false, false, false, false, false, false, false] rfl rfl (by kernel_rfl) (fun _ _ _ h => h) (Or.inl ⟨by rfl, ?_⟩) ?_ ?_
    rotate_left
    · intro w'
      go_simp
      with_reducible rfl
    rotate_left
    · simp only [Act.put, List.setIfInBounds_toArray, List.set_cons_zero, List.set_cons_succ, i64_w, i32_w]
      rfl
    refine pure_ (i := 2) (N := some 19) (v := ?_) (a' := ?_) #[true, true, true, false, false, false, false, false, false, false, false] rfl rfl (by kernel_rfl) (fun _ _ _ h => h) (Or.inl ⟨by rfl, ?_⟩) ?_ ?_
    rotate_left
    · intro w'
      go_simp
      with_reducible rfl
    rotate_left
    · simp only [Act.put, List.setIfInBounds_toArray, List.set_cons_zero, List.set_cons_succ, i64_w, i32_w]
      rfl
    refine pure_ (i := 4) (N := some 21) (v := ?_) (a' := ?_) #[true, true, true, false, true, false, false, false, false, false, false] rfl rfl (by kernel_rfl) (fun _ _ _ h => h) (Or.inl ⟨by rfl, ?_⟩) ?_ ?_
    rotate_left
    · intro w'
      go_simp
      with_reducible rfl
    rotate_left
    · simp only [Act.put, List.setIfInBounds_toArray, List.set_cons_zero, List.set_cons_succ, i64_w, i32_w]
      rfl
    refine pure_ (i := 5) (N := some 22) (v := ?_) (a' := ?_) #[true, true, true, false, true, true, false, false, false, false, false] rfl rfl (by kernel_rfl) (fun _ _ _ h => h) (Or.inl ⟨by rfl, ?_⟩) ?_ ?_
    rotate_left
    · intro w'
      go_simp
      with_reducible rfl
    rotate_left
    · simp only [Act.put, List.setIfInBounds_toArray, List.set_cons_zero, List.set_cons_succ, i64_w, i32_w]
      rfl
    refine pure_ (i := 6) (N := some 23) (v := ?_) (a' := ?_) #[true, true, true, false, true, true, true, false, false, false, false] rfl rfl (by kernel_rfl) (fun _ _ _ h => h) (Or.inl ⟨by rfl, ?_⟩) ?_ ?_
    rotate_left
    · intro w'
      go_simp
      with_reducible rfl
    rotate_left
    · simp only [Act.put, List.setIfInBounds_toArray, List.set_cons_zero, List.set_cons_succ, i64_w, i32_w]
      rfl
    refine take_ (i := 3) (N := some 20) (v := ?_) (a' := ?_) #[true, true, true, true, true, true, true, false, false, false, false] rfl rfl (by kernel_rfl) (fun _ _ _ h => h) (Or.inl ⟨by rfl, ?_⟩) hHeld ?_ ?_
    rotate_left
    · rintro w' ⟨s0, s1⟩
      go_simp
      with_reducible rfl
    rotate_left
    · simp only [Act.put, List.setIfInBounds_toArray, List.set_cons_zero, List.set_cons_succ, i64_w, i32_w]
      rfl
    refine take_ (i := 7) (N := some 24) (v := ?_) (a' := ?_) #[true, true, true, true, true, true, true, true, false, false, false] rfl rfl (by kernel_rfl) (fun _ _ _ h => h) (Or.inl ⟨by rfl, ?_⟩) hHeld ?_ ?_
    rotate_left
    · rintro w' ⟨s0, s1⟩
      go_simp
      with_reducible rfl
    rotate_left
    · simp only [Act.put, List.setIfInBounds_toArray, List.set_cons_zero, List.set_cons_succ, i64_w, i32_w]
      rfl
    refine two_ (i := 8) (j := 9) (Ni := some 25) (Nj := some 6) #[true, true, true, true, true, true, true, true, true, false, false] #[true, true, true, true, true, true, true, true, false, true, false] rfl rfl rfl rfl (by kernel_rfl) (by decide) (by decide) (fun K hK => ?_) (fun K hK => ?_)
    ·
      refine goes_ Try.func18 (by kernel_rfl) rfl #[.int .i64 limit, .string s] (by rfl) rfl rfl (by simp [Act.eval]) ?_
      refine (rsplit_any limit s _ zs).mono ?_
      rintro en w5 ⟨v0, rfl, hR, b5⟩
      have b5' : Below w.heap.size w w5 := ⟨b5.os, b5.tape, b5.output, b5.size, b5.block⟩
      refine ⟨_, rfl, ?_⟩
      refine hK.out _ _ ⟨((HME.out _ b5').cell 0).trans rfl, ((HME.out _ b5').cell 1).trans rfl⟩ (fun hHeld => ?_)
      clear hK K
      refine norm_ (a' := ?_) ?_ ?_
      rotate_left
      · show Act.put _ (some 25) _ = _
        simp only [Act.put, List.setIfInBounds_toArray, List.set_cons_zero, List.set_cons_succ, i64_w, i32_w]
        rfl
      have b6 : Below w.heap.size w (w5.alloc (.cells #[.slice none 0 0, .int .i64 0, .int .i64 0] 29)) := b5'.alloc b5'.size _
      refine one_ (i := 9) (N := some 6) #[true, true, true, true, true, true, true, true, true, true, false] rfl rfl (by kernel_rfl) (by decide) (fun K hK => ?_)
      refine value_ (w1 := ?_) (v := ?_) (by rfl) rfl ?_ ?_
      rotate_left 2
      · go_simp
        constructor
        · rfl
        · rfl
      refine hK.out _ _ ⟨((HME.out _ b6).cell 0).trans rfl, ((HME.out _ b6).cell 1).trans rfl⟩ (fun hHeld => ?_)
      clear hK K
      refine norm_ (a' := ?_) ?_ ?_
      rotate_left
      · show Act.put _ (some 6) _ = _
        simp only [Act.put, List.setIfInBounds_toArray, List.set_cons_zero, List.set_cons_succ, i64_w, i32_w]
        rfl
      refine last_ (i := 10) (N := none) #[true, true, true, true, true, true, true, true, true, true, true] rfl rfl (by kernel_rfl) (by decide) (fun K hK => ?_)
      obtain ⟨A5, c5, rfl⟩ := Kd.R_slice hR
      refine skip_ (w1 := ?_) (by rfl) rfl ?_ ?_
      rotate_left
      · go_simp
        rfl
      refine hK.out _ _ ?_
      clear hK K
      refine done_ (by kernel_rfl) ?_
      go_wp2_with fail
      go_meet
      case rel => exact ⟨_, _, rfl, b5'.size, At.new _ _ _, Kd.R_alloc hR _, b5'.alloc b5'.size _⟩
    ·
      refine value_ (w1 := ?_) (v := ?_) (by rfl) rfl ?_ ?_
      rotate_left 2
      · go_simp
        constructor
        · rfl
        · rfl
      have b5 : Below w.heap.size w (w.drew.alloc (.cells #[.slice none 0 0, .int .i64 0, .int .i64 0] 29)) := b0.alloc b0.size _
      refine hK.out _ _ ⟨((HME.out _ b5).cell 0).trans rfl, ((HME.out _ b5).cell 1).trans rfl⟩ (fun hHeld => ?_)
      clear hK K
      refine norm_ (a' := ?_) ?_ ?_
      rotate_left
      · show Act.put _ (some 6) _ = _
        simp only [Act.put, List.setIfInBounds_toArray, List.set_cons_zero, List.set_cons_succ, i64_w, i32_w]
        rfl
      refine one_ (i := 8) (N := some 25) #[true, true, true, true, true, true, true, true, true, true, false] rfl rfl (by kernel_rfl) (by decide) (fun K hK => ?_)
      refine goes_ Try.func18 (by kernel_rfl) rfl #[.int .i64 limit, .string s] (by rfl) rfl rfl (by simp [Act.eval]) ?_
      refine (rsplit_any limit s _ zs).mono ?_
      rintro en w5 ⟨v0, rfl, hR, b6⟩
      have a5 : At w5 w.heap.size 29 #[.slice none 0 0, .int .i64 0, .int .i64 0] := (At.new w.drew 29 #[.slice none 0 0, .int .i64 0, .int .i64 0]).below b6 (At.new w.drew 29 #[.slice none 0 0, .int .i64 0, .int .i64 0]).lt
      have b5' : Below w.heap.size w w5 := b5.trans (b6.mono b5.size)
      refine ⟨_, rfl, ?_⟩
      refine hK.out _ _ ⟨((HME.out _ b5').cell 0).trans rfl, ((HME.out _ b5').cell 1).trans rfl⟩ (fun hHeld => ?_)
      clear hK K
      refine norm_ (a' := ?_) ?_ ?_
      rotate_left
      · show Act.put _ (some 25) _ = _
        simp only [Act.put, List.setIfInBounds_toArray, List.set_cons_zero, List.set_cons_succ, i64_w, i32_w]
        rfl
      refine last_ (i := 10) (N := none) #[true, true, true, true, true, true, true, true, true, true, true] rfl rfl (by kernel_rfl) (by decide) (fun K hK => ?_)
      obtain ⟨A5v, c5v, rfl⟩ := Kd.R_slice hR
      have x0 : w5.cell? ⟨w.heap.size, 0, none⟩ = some (.slice none 0 0) := (a5.cell 0).trans rfl
      have x1 : w5.cell? ⟨w.heap.size, 1, none⟩ = some (.int .i64 0) := (a5.cell 1).trans rfl
      have x2 : w5.cell? ⟨w.heap.size, 2, none⟩ = some (.int .i64 0) := (a5.cell 2).trans rfl
      have y0 : w5.frozen? ⟨w.heap.size, 0, none⟩ = false := a5.free 0
      have y1 : w5.frozen? ⟨w.heap.size, 1, none⟩ = false := a5.free 1
      have y2 : w5.frozen? ⟨w.heap.size, 2, none⟩ = false := a5.free 2
      have A5 := Lib.hid a5
      have B5 := Lib.hid b5'
      have HR5 := Lib.hid hR
      have HS6 : w.heap.size ≤ w5.heap.size := b5'.size
      have hR5 := Kd.R_lower (base' := w.heap.size) hR (by show w.heap.size ≤ (w.drew.alloc _).heap.size; simp)
      have hR6 : Kd.R Kd.string 9 w5 w.heap.size (fun _ => True) (.slice A5v (cutAt limit s 0).1.length c5v) (cutAt limit s 0).1 := hR5
      have HR6 := Lib.hid hR6
      clear a5 b5' b5 b6 b0 hR hR5 hR6
      refine skip_ (w1 := ?_) (by rfl) rfl ?_ ?_
      rotate_left
      · go_simp
        rfl
      refine hK.out _ _ ?_
      clear hK K
      refine done_ (by kernel_rfl) ?_
      go_wp2_with fail
      go_meet
      case rel => exact ⟨_, _, rfl, Nat.le_refl _, ((A5.out.set 0 _).set 1 _).set 2 _, Kd.R_set (Kd.R_set (Kd.R_set HR6.out A5.out (by decide) 0 _) (A5.out.set 0 _) (by decide) 1 _) ((A5.out.set 0 _).set 1 _) (by decide) 2 _, (((B5.out.setCell (by simp) _).setCell (by simp) _).setCell (by simp) _)⟩
  case rest =>
    obtain ⟨b, v0, rfl, hb, aH, rR, bW⟩ := hcut
    obtain ⟨A0, c0, rfl⟩ := Kd.R_slice rR
    have aG := HME.out _ bW
    have g2 := (aG.cell 2).trans rfl
    have k2 := aG.free 2
    have b0 := (aH.cell 0).trans rfl
    have b2 := (aH.cell 2).trans rfl
    have qc := (Kd.R_reads' rR).2.1
    have hdr : (cutAt limit s 0).1.drop k = m := by rw [HM.out, HK.out]; simp
    obtain ⟨A2, hA2⟩ : ∃ A2, A2 = if c0 = k then A0 else A0.map (·.add (k * 1)) := ⟨_, rfl⟩
    have hfC : ∀ V, Kd.R Kd.string 9 V w.heap.size (fun _ => True) (.slice A0 (cutAt limit s 0).1.length c0) (cutAt limit s 0).1 → Kd.C Kd.string V A2 m.length m := by
      intro V hV
      have hcD := Kd.C_drop (m := k) (c := c0) (Kd.R_reads' hV).2.2 hkl qc
      rw [hdr] at hcD
      change Kd.C _ _ (if c0 = k then A0 else A0.map (·.add (k * 1))) _ _ at hcD
      rw [← hA2] at hcD
      exact hcD
    obtain ⟨i0, hi0, hz0, hz1, hz2⟩ := info_parts info_str
    have hml : (cutAt limit s 0).1.length - k = m.length := by rw [HM.out, HK.out]; simp
    have hcut1 : ∀ W : World, (Instr.slice 24 (.slice A0 (cutAt limit s 0).1.length c0) (some (.int .i64 (k : Int))) none none).run Try.prog W = .ok (.slice A2 m.length (c0 - k)) W := by
      intro W
      have := cut_from 24 9 .i64 Try.underlying24 hi0 1 hz1 A0 (cutAt limit s 0).1.length c0 (k : Int) (by omega) (by omega) W
      rw [this, hA2, Int.toNat_natCast, hml]
    have hmc : m.length ≤ c0 - k := by rw [← hml]; omega
    have HFC := Lib.hid hfC
    have HBW := Lib.hid bW
    have AG := Lib.hid aG
    have RR := Lib.hid rR
    have hne : g ≠ b := aG.ne aH (by decide)
    have lb := aH.lt
    have lg := aG.lt
    clear m0 m1 l1 hfC hdr hA2 hi0 hz0 hz1 hz2 hml qc rR bW aG HME hsc hkl
    obtain ⟨n, hn⟩ : ∃ n, n = (cutAt limit s 0).1.length := ⟨_, rfl⟩
    obtain ⟨e, he⟩ : ∃ e, e = (cutAt limit s 0).2.2 := ⟨_, rfl⟩
    rw [← hn] at hcut1 b0
    rw [← he] at b2
    have HN := Lib.hid hn
    have HE := Lib.hid he
    clear hn he
    go_wp2_with fail
    go_quiet (fail)
    revert nq
    intro nqA
    go_wp2_with fail
    go_quiet (fail)
    go_wp2_with fail
    refine bodyPost_ret (v := .tuple #[.slice A2 m.length (c0 - k), .int .i64 e]) ?_ rfl ⟨.slice A2 m.length (c0 - k), m, ?_, HM.out, ⟨A2, c0 - k, rfl, hmc, ?_⟩, ?_, ?_⟩
    · simp [results, Try.results53, go_sem]
    · rw [HE.out]
    · intro V hV
      refine HFC.out V ?_
      have h2 := Kd.R_drewN (Kd.R_set (Kd.R_drewN RR.out nqA) (AG.out.drewN nqA) (by decide) 2 (.int .i64 (n : Nat))) nq
      refine Kd.R_mono (Kd.R_move (Kd.R_bound h2) (fun i hi => hV i ?_ hi.2.2.1)) (fun _ hk => hk.1)
      rw [← HWZ.out]
      exact hi.2.1
    · unfold RfAt
      rw [← HN.out]
      exact ((AG.out.drewN _).set 2 _).drewN _
    · have hb1 := HBW.out
      have hg1 := HG1.out
      refine ⟨hb1.os.trans hg1.os, hb1.tape.trans hg1.tape, hb1.output.trans hg1.output, ?_, fun i hi hn => ?_⟩
      · have q1 := hb1.size
        have q2 := hg1.size
        show w0.heap.size ≤ (World.setCell _ _ _).heap.size
        simp [World.setCell]
        show w0.heap.size ≤ wc.heap.size
        omega
      · have q2 := hg1.size
        have hig : i ≠ g := fun e => hn (by rw [e])
        refine Eq.trans (Below.heap_setCell (wc.drewN _) ⟨g, 2, none⟩ _ i hig) ((hb1.block i (by omega)).trans (hg1.block i hi hn))
end Go.Proofs.Ytcjlpedpiljnmaa.W
