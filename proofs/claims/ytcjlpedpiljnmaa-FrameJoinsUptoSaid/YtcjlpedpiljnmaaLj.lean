/- Walk of the statement FrameJoins: it comes to true. -/
import Derived.Test.YtcjlpedpiljnmaaFtw
import Derived.Test.YtcjlpedpiljnmaaFj
import Derived.Test.YtcjlpedpiljnmaaFd4
namespace Go.Proofs.Ytcjlpedpiljnmaa.W
open Go.RowKit Go.Proofs.YtcjlpedpiljnmaaW.PrintWords Go.Proofs.YtcjlpedpiljnmaaW.PrintLast Go.Proofs.Ytcjlpedpiljnmaa.GP
set_option linter.unusedVariables false
set_option linter.unusedSimpArgs false

def kBody : Kd (Int × ByteArray) := Kd.pair (Kd.int .i64) Kd.string
theorem add_field (ad : Addr) (i j : Nat) (h : 0 < j) : ad.add (i + j) = ⟨(ad.add i).block, (ad.add i).off + j, none⟩ := by
  unfold Addr.add
  rw [if_neg (by omega)]
  by_cases h0 : i = 0
  · subst h0; simp
  · rw [if_neg h0]
    simp [Nat.add_assoc]
theorem body_at {w : World} {A : Option Addr} {n : Nat} {xs : List (Int × ByteArray)} (h : Kd.C kBody w A n xs) (i : Nat) (hi : i < n) : ∃ ad, A = some ad ∧ w.cell? (ad.add (i * 2)) = some (.int .i64 (xs.getD i (0, ⟨#[]⟩)).1) ∧
    w.cell? ⟨(ad.add (i * 2)).block, (ad.add (i * 2)).off + 1, none⟩ = some (.string (xs.getD i (0, ⟨#[]⟩)).2) := by
  obtain ⟨ad, c, e, _, hK, hc0⟩ := Kd.C_get h (0, ⟨#[]⟩) (i : Int) (by omega) (by omega)
  have hc : ∀ j u, c[j]? = some u → w.cell? (ad.add (i * 2 + j)) = some u := hc0
  obtain ⟨_, _, rfl, rfl, rfl⟩ := hK
  exact ⟨ad, e, hc 0 _ rfl, by rw [← add_field _ _ 1 (by omega)]; exact hc 1 _ rfl⟩
/-- The greatest size so far, as the loop has it. -/
def maxT (l : List ByteArray) : Int := l.foldl (fun a m => if a < (m.size : Int) then (m.size : Int) else a) 0
theorem maxT_snoc (l : List ByteArray) (m : ByteArray) : maxT (l ++ [m]) = if maxT l < (m.size : Int) then (m.size : Int) else maxT l := by
  unfold maxT; rw [List.foldl_append]; rfl
theorem fold_ge (l : List ByteArray) : ∀ a : Int, a ≤ l.foldl (fun a m => if a < (m.size : Int) then (m.size : Int) else a) a ∧ ∀ m ∈ l, (m.size : Int) ≤ l.foldl (fun a m => if a < (m.size : Int) then (m.size : Int) else a) a := by
  induction l with
  | nil => intro a; exact ⟨Int.le_refl _, fun m hm => by cases hm⟩
  | cons x l ih =>
    intro a
    have h := ih (if a < (x.size : Int) then (x.size : Int) else a)
    have h2 : a ≤ (if a < (x.size : Int) then (x.size : Int) else a) ∧ (x.size : Int) ≤ (if a < (x.size : Int) then (x.size : Int) else a) := by split <;> omega
    rw [List.foldl_cons]
    refine ⟨by omega, fun m hm => ?_⟩
    rcases List.mem_cons.1 hm with rfl | hm
    · omega
    · exact h.2 m hm
theorem fold_le (l : List ByteArray) (N : Int) (hl : ∀ m ∈ l, (m.size : Int) ≤ N) : ∀ a : Int, a ≤ N → l.foldl (fun a m => if a < (m.size : Int) then (m.size : Int) else a) a ≤ N := by
  induction l with
  | nil => intro a h; exact h
  | cons x l ih =>
    intro a h
    rw [List.foldl_cons]
    refine ih (fun m hm => hl m (by simp [hm])) _ ?_
    have := hl x (by simp)
    split <;> omega
theorem maxT_ge (l : List ByteArray) : 0 ≤ maxT l ∧ ∀ m ∈ l, (m.size : Int) ≤ maxT l := fold_ge l 0

set_option maxRecDepth 100000 in
set_option maxHeartbeats 8000000 in
theorem joins_any (A : Option Addr) (c : Nat) (bodies : List (Int × ByteArray)) (w : World) (hC : Kd.C kBody w A bodies.length bodies) (hc : bodies.length ≤ c)
    (hl : bodies.length ≤ 1048576) (hz : (joinL (bodies.map msgOf)).size ≤ 16777216) :
    Calls Try.prog 11 #[.slice A bodies.length c] w fun en w' => en = .returned (.bool true) ∧ Below w.heap.size w w' := by
  obtain ⟨ms, hms⟩ : ∃ ms, ms = bodies.map msgOf := ⟨_, rfl⟩
  have hml : ms.length = bodies.length := by rw [hms, List.length_map]
  rw [← hms] at hz
  have hmg : ∀ i, i < bodies.length → ms[i]? = some (msgOf (bodies.getD i (0, ⟨#[]⟩))) := by
    intro i hi
    rw [hms, List.getElem?_map, List.getD_eq_getElem?_getD, List.getElem?_eq_getElem hi]
    rfl
  have hmm : ∀ m ∈ ms, ∃ a n, Msg m a n ∧ a + n ≤ m.size ∧ m.size ≤ 5000 := by
    intro m hm
    rw [hms] at hm
    obtain ⟨x, _, rfl⟩ := List.mem_map.1 hm
    obtain ⟨a, h⟩ := msgOf_msg x
    have h1 := h.size
    have h2 := msgOf_size x
    have h3 := shortS_size x.2
    exact ⟨a, _, h, by omega, by omega⟩
  have HC := Lib.hid hC
  have HMS := Lib.hid hms
  have HML := Lib.hid hml
  have HMG := Lib.hid hmg
  have HMM := Lib.hid hmm
  clear hC hms hml hmg hmm
  go_enter Try.func11, Try.ntmps11
  go_wp2_with fail
  go_loopw [3, 4, 5, 6] (fun vw vs vl vi wr => ∃ i : Nat, i ≤ bodies.length ∧ vi = .int .i64 i ∧ vs = .string (joinL (ms.take i)) ∧ vl = .int .i64 (maxT (ms.take i)) ∧ Kd.R Kd.string 9 wr w.heap.size (fun _ => True) vw (ms.take i) ∧ Below w.heap.size w wr)
    (fun _ _ _ i _ => bodies.length - (intOf i).toNat)
  case atStart => exact ⟨0, Nat.zero_le _, rfl, rfl, rfl, Kd.R_nil _ _ _ _ _, Below.refl _ _⟩
  case round =>
    obtain ⟨i, hi, rfl, rfl, rfl, rW, rB⟩ := hrel
    obtain ⟨Aw, cw, rfl⟩ := Kd.R_slice rW
    by_cases hil : i < bodies.length
    · obtain ⟨ad, eA, x0, x1⟩ := body_at (Kd.C_below HC.out rB) i hil
      subst eA
      obtain ⟨x, hx⟩ : ∃ x, x = bodies.getD i (0, ⟨#[]⟩) := ⟨_, rfl⟩
      rw [← hx] at x0 x1
      have hmi := HMG.out i hil
      rw [← hx] at hmi
      obtain ⟨m, hm⟩ : ∃ m, m = msgOf x := ⟨_, rfl⟩
      rw [← hm] at hmi
      obtain ⟨hil2, hmi2⟩ := List.getElem?_eq_some_iff.1 hmi
      have ht : ms.take (i + 1) = ms.take i ++ [m] := by rw [List.take_succ_eq_append_getElem hil2, hmi2]
      have hj : joinL (ms.take (i + 1)) = joinL (ms.take i) ++ m := by rw [ht, joinL_app, joinL, joinL, app_nil]
      have hmx : maxT (ms.take (i + 1)) = if maxT (ms.take i) < (m.size : Int) then (m.size : Int) else maxT (ms.take i) := by rw [ht, maxT_snoc]
      have hsz : (joinL (ms.take (i + 1))).size ≤ 16777216 := by
        have e : joinL ms = joinL (ms.take (i + 1)) ++ joinL (ms.drop (i + 1)) := by rw [← joinL_app, List.take_append_drop]
        have e2 : (joinL (ms.take (i + 1)) ++ joinL (ms.drop (i + 1))).size = _ := ByteArray.size_append
        rw [e] at hz
        omega
      rw [hj] at hsz
      have hjz : (joinL (ms.take i) ++ m).size = (joinL (ms.take i)).size + m.size := ByteArray.size_append
      have hwf := msgOf_f x
      rw [← hm] at hwf
      have hsf := shortS_f x.2
      have hcat : (joinL (ms.take i)).size + m.size ≤ 9223372036854775807 := by omega
      have q0 : (0 : Int) ≤ i := by omega
      have q1 : (i : Int) < bodies.length := by omega
      obtain ⟨mx, hmx0⟩ : ∃ mx, mx = maxT (ms.take i) := ⟨_, rfl⟩
      rw [← hmx0] at hmx ⊢
      obtain ⟨J, hJ⟩ : ∃ J, J = joinL (ms.take i) := ⟨_, rfl⟩
      rw [← hJ] at hj hcat ⊢
      obtain ⟨nw, hnw⟩ : ∃ nw, nw = (ms.take i).length := ⟨_, rfl⟩
      have hnwi : nw ≤ 1048576 := by rw [hnw, List.length_take]; omega
      rw [← hnw]
      have HX := Lib.hid hx
      have HM := Lib.hid hm
      have HT := Lib.hid ht
      have HJ := Lib.hid hj
      have HMX := Lib.hid hmx
      have HWF := Lib.hid hwf
      have HSF := Lib.hid hsf
      have HNW := Lib.hid hnw
      have RW_ := Lib.hid rW
      clear hx hm hmi hil2 hmi2 ht hj hmx hjz hwf hsf hmx0 hJ hnw rW hsz
      go_upto_region 7 with (fail)
      go_cut [7] from 15 to 45 (fun v7 wx => v7 = .string m ∧ Below wr.heap.size wr wx)
      case first =>
        have l0 := World.block_lt_of_cell? wr _ x0
        have l1 := World.block_lt_of_cell? wr _ x1
        refine start_ (n := 13) (S := fun V => V.cell? (ad.add (i * 2)) = some (.int .i64 x.1) ∧ V.cell? ⟨(ad.add (i * 2)).block, (ad.add (i * 2)).off + 1, none⟩ = some (.string x.2)) (ds := []) #[false, false, false, false, false, false, false, false, false, false, false, false, false] (by kernel_rfl) rfl rfl ⟨x0, x1⟩ (fun hHeld => ?_)
        refine pure_ (i := 0) (N := some 21) (v := ?_) (a' := ?_) #[true, false, false, false, false, false, false, false, false, false, false, false, false] rfl rfl (by kernel_rfl) (fun _ _ _ h => h) (Or.inl ⟨by rfl, ?_⟩) ?_ ?_
        rotate_left
        · intro w'
          go_simp
          with_reducible rfl
        rotate_left
        · simp only [Act.put, List.setIfInBounds_toArray, List.set_cons_zero, List.set_cons_succ, i64_w, i32_w]
          rfl
        refine pure_ (i := 1) (N := some 22) (v := ?_) (a' := ?_) #[true, true, false, false, false, false, false, false, false, false, false, false, false] rfl rfl (by kernel_rfl) (fun _ _ _ h => h) (Or.inl ⟨by rfl, ?_⟩) ?_ ?_
        rotate_left
        · intro w'
          go_simp
          with_reducible rfl
        rotate_left
        · simp only [Act.put, List.setIfInBounds_toArray, List.set_cons_zero, List.set_cons_succ, i64_w, i32_w]
          rfl
        refine pure_ (i := 2) (N := some 23) (v := ?_) (a' := ?_) #[true, true, true, false, false, false, false, false, false, false, false, false, false] rfl rfl (by kernel_rfl) (fun _ _ _ h => h) (Or.inl ⟨by rfl, ?_⟩) ?_ ?_
        rotate_left
        · intro w'
          go_simp
          with_reducible rfl
        rotate_left
        · simp only [Act.put, List.setIfInBounds_toArray, List.set_cons_zero, List.set_cons_succ, i64_w, i32_w]
          rfl
        refine pure_ (i := 3) (N := some 24) (v := ?_) (a' := ?_) #[true, true, true, true, false, false, false, false, false, false, false, false, false] rfl rfl (by kernel_rfl) (fun _ _ _ h => h) (Or.inl ⟨by rfl, ?_⟩) ?_ ?_
        rotate_left
        · intro w'
          go_simp
          with_reducible rfl
        rotate_left
        · simp only [Act.put, List.setIfInBounds_toArray, List.set_cons_zero, List.set_cons_succ, i64_w, i32_w]
          rfl
        refine pure_ (i := 5) (N := some 26) (v := ?_) (a' := ?_) #[true, true, true, true, false, true, false, false, false, false, false, false, false] rfl rfl (by kernel_rfl) (fun _ _ _ h => h) (Or.inl ⟨by rfl, ?_⟩) ?_ ?_
        rotate_left
        · intro w'
          go_simp
          with_reducible rfl
        rotate_left
        · simp only [Act.put, List.setIfInBounds_toArray, List.set_cons_zero, List.set_cons_succ, i64_w, i32_w]
          rfl
        refine pure_ (i := 6) (N := some 27) (v := ?_) (a' := ?_) #[true, true, true, true, false, true, true, false, false, false, false, false, false] rfl rfl (by kernel_rfl) (fun _ _ _ h => h) (Or.inl ⟨by rfl, ?_⟩) ?_ ?_
        rotate_left
        · intro w'
          go_simp
          with_reducible rfl
        rotate_left
        · simp only [Act.put, List.setIfInBounds_toArray, List.set_cons_zero, List.set_cons_succ, i64_w, i32_w]
          rfl
        refine pure_ (i := 7) (N := some 28) (v := ?_) (a' := ?_) #[true, true, true, true, false, true, true, true, false, false, false, false, false] rfl rfl (by kernel_rfl) (fun _ _ _ h => h) (Or.inl ⟨by rfl, ?_⟩) ?_ ?_
        rotate_left
        · intro w'
          go_simp
          with_reducible rfl
        rotate_left
        · simp only [Act.put, List.setIfInBounds_toArray, List.set_cons_zero, List.set_cons_succ, i64_w, i32_w]
          rfl
        refine pure_ (i := 8) (N := some 29) (v := ?_) (a' := ?_) #[true, true, true, true, false, true, true, true, true, false, false, false, false] rfl rfl (by kernel_rfl) (fun _ _ _ h => h) (Or.inl ⟨by rfl, ?_⟩) ?_ ?_
        rotate_left
        · intro w'
          go_simp
          with_reducible rfl
        rotate_left
        · simp only [Act.put, List.setIfInBounds_toArray, List.set_cons_zero, List.set_cons_succ, i64_w, i32_w]
          rfl
        refine take_ (i := 4) (N := some 25) (v := ?_) (a' := ?_) #[true, true, true, true, true, true, true, true, true, false, false, false, false] rfl rfl (by kernel_rfl) (fun _ _ _ h => h) (Or.inl ⟨by rfl, ?_⟩) hHeld ?_ ?_
        rotate_left
        · rintro w' ⟨s0, s1⟩
          go_simp
          with_reducible rfl
        rotate_left
        · simp only [Act.put, List.setIfInBounds_toArray, List.set_cons_zero, List.set_cons_succ, i64_w, i32_w]
          rfl
        refine take_ (i := 9) (N := some 30) (v := ?_) (a' := ?_) #[true, true, true, true, true, true, true, true, true, true, false, false, false] rfl rfl (by kernel_rfl) (fun _ _ _ h => h) (Or.inl ⟨by rfl, ?_⟩) hHeld ?_ ?_
        rotate_left
        · rintro w' ⟨s0, s1⟩
          go_simp
          with_reducible rfl
        rotate_left
        · simp only [Act.put, List.setIfInBounds_toArray, List.set_cons_zero, List.set_cons_succ, i64_w, i32_w]
          rfl
        refine one_ (i := 10) (N := some 31) #[true, true, true, true, true, true, true, true, true, true, true, false, false] rfl rfl (by kernel_rfl) (by decide) (fun K hK => ?_)
        refine goes_ Try.func21 (by kernel_rfl) rfl #[.string x.2] (by rfl) rfl rfl (by simp [Act.eval]) ?_
        refine (rosterlaw03_short.calls x.2 (shortS x.2) _ HSF.out).mono ?_
        rintro en w5 ⟨rfl, nd, rfl⟩
        refine ⟨_, rfl, ?_⟩
        refine hK.out _ _ ⟨x0, x1⟩ (fun hHeld => ?_)
        clear hK K
        refine norm_ (a' := ?_) ?_ ?_
        rotate_left
        · show Act.put _ (some 31) _ = _
          simp only [Act.put, List.setIfInBounds_toArray, List.set_cons_zero, List.set_cons_succ, i64_w, i32_w]
          rfl
        refine one_ (i := 11) (N := some 32) #[true, true, true, true, true, true, true, true, true, true, true, true, false] rfl rfl (by kernel_rfl) (by decide) (fun K hK => ?_)
        refine goes_ Try.func22 (by kernel_rfl) rfl #[.int .i64 x.1, .string (shortS x.2)] (by rfl) rfl rfl (by simp [Act.eval]) ?_
        refine (rosterlaw03_wrap.calls 20 x.1 (shortS x.2) m _ HWF.out).mono ?_
        rintro en w6 ⟨rfl, b6⟩
        refine ⟨_, rfl, ?_⟩
        have b7 : Below wr.heap.size wr w6 := ⟨b6.os, b6.tape, b6.output, b6.size, b6.block⟩
        refine hK.out _ _ ⟨(b7.cell l0).trans x0, (b7.cell (p := ⟨(ad.add (i * 2)).block, (ad.add (i * 2)).off + 1, none⟩) l1).trans x1⟩ (fun hHeld => ?_)
        clear hK K
        refine norm_ (a' := ?_) ?_ ?_
        rotate_left
        · show Act.put _ (some 32) _ = _
          simp only [Act.put, List.setIfInBounds_toArray, List.set_cons_zero, List.set_cons_succ, i64_w, i32_w]
          rfl
        refine pure_ (i := 12) (N := some 7) (v := ?_) (a' := ?_) #[true, true, true, true, true, true, true, true, true, true, true, true, true] rfl rfl (by kernel_rfl) (fun _ _ _ h => h) (Or.inl ⟨by rfl, ?_⟩) ?_ ?_
        rotate_left
        · intro w'
          go_simp
          with_reducible rfl
        rotate_left
        · simp only [Act.put, List.setIfInBounds_toArray, List.set_cons_zero, List.set_cons_succ, i64_w, i32_w]
          rfl
        refine done_ (by kernel_rfl) ?_
        go_wp2_with fail
        go_meet
        case rel => exact ⟨rfl, b7⟩
      case rest =>
        obtain ⟨rfl, b7⟩ := hcut
        have rW := Kd.R_below RW_.out b7
        have B7 := rB.trans (b7.mono rB.size)
        have hlen : ((ms.take i).length + 1) * 16 ≤ 140737488355328 := by rw [← HNW.out]; omega
        clear x0 x1 rB b7 RW_
        rw [HNW.out]
        go_upto_region 9 with (at_builtin; go_must (refine Kd.R_append Kd.string (w0 := wc) (W := wc) w.heap.size rfl (.tmp 33) (.tmp 35) 24 9 (.string ⟨#[]⟩) 16 rfl Try.underlying24 info_str rfl (by decide) (by decide) (.slice Aw (ms.take i).length cw) (ms.take i) m [.string m] (fun _ => True) (fun _ => False) rfl rfl rfl (fun _ h => h.elim) (fun _ _ => trivial) rW (Below.refl _ _) B7.size hlen ?_); intro v8 w8 hR8 hb8 hg8 hat8)
        have B8 : Below w.heap.size w w8 := B7.grown hg8 B7.size (fun q hq => ((Kd.R_bound rW).1 q hq).2.1)
        rw [← HT.out] at hR8
        clear rW B7 hb8 hg8 hat8
        have HR8 := Lib.hid hR8
        have HB8 := Lib.hid B8
        clear hR8 B8
        by_cases hgt : mx < (m.size : Int)
        · have e := HMX.out
          rw [if_pos hgt] at e
          have E := Lib.hid e
          clear e
          go_wp2
          go_roundw
          case rel => exact ⟨i + 1, by omega, by go_num, by rw [HJ.out], by rw [E.out], HR8.out, HB8.out⟩
          case measure => simp [intOf]; omega
        · have e := HMX.out
          rw [if_neg hgt] at e
          have E := Lib.hid e
          clear e
          go_wp2
          go_roundw
          case rel => exact ⟨i + 1, by omega, by go_num, by rw [HJ.out], by rw [E.out], HR8.out, HB8.out⟩
          case measure => simp [intOf]; omega
    · obtain rfl : i = bodies.length := by omega
      have hfull : ms.take bodies.length = ms := by rw [← HML.out]; exact List.take_length
      rw [hfull] at rW ⊢
      obtain ⟨T, hT⟩ : ∃ T, T = joinL ms := ⟨_, rfl⟩
      rw [← hT] at hz ⊢
      obtain ⟨L, hL⟩ : ∃ L : Int, L = if bodies.length = 0 then 2 else maxT ms := ⟨_, rfl⟩
      have hML : ∀ m ∈ ms, ∃ a n, Msg m a n ∧ a + n ≤ L := by
        intro m hm
        obtain ⟨a, n, h1, h2, _⟩ := HMM.out m hm
        have hne : ¬ bodies.length = 0 := by
          intro h0
          have := HML.out
          rw [h0] at this
          rw [List.eq_nil_of_length_eq_zero this] at hm
          cases hm
        refine ⟨a, n, h1, ?_⟩
        rw [hL, if_neg hne]
        have := (maxT_ge ms).2 m hm
        omega
      have hLr : 2 ≤ L ∧ L ≤ 5000 := by
        rw [hL]
        split
        · omega
        · rename_i h0
          have hpos : 0 < ms.length := by rw [HML.out]; omega
          obtain ⟨a, n, h1, h2, h3⟩ := HMM.out _ (List.getElem_mem hpos)
          have := (maxT_ge ms).2 _ (List.getElem_mem hpos)
          have := h1.a2
          have := h1.n0
          refine ⟨by omega, ?_⟩
          have := fold_le ms 5000 (fun m hm => by obtain ⟨_, _, _, _, h⟩ := HMM.out m hm; omega) 0 (by omega)
          unfold maxT
          exact this
      have hcut := cut_msgs L ⟨#[]⟩ ms hML
      have c0 : cutAt L ⟨#[]⟩ 0 = ([], 0, 0) := cutAt_end (Nat.le_refl _)
      rw [c0, app_nil, ← hT] at hcut
      simp only [List.append_nil, Int.add_zero] at hcut
      have hstep := step_facts L ms hML
      rw [← hT] at hstep
      obtain ⟨mx, hmx⟩ : ∃ mx, mx = maxT ms := ⟨_, rfl⟩
      rw [← hmx] at hL ⊢
      have HT := Lib.hid hT
      have HL := Lib.hid hL
      have HCU := Lib.hid hcut
      have HST := Lib.hid hstep
      have RW_ := Lib.hid rW
      have HF := Lib.hid hfull
      clear hT hL hcut hstep rW hfull hML c0 hmx HMM HMG
      go_upto_if 48 with fail
      go_cut [5] from 49 (fun v5 wx => v5 = .int .i64 L ∧ wx = wr)
      case first =>
        by_cases h0 : bodies.length = 0
        · have e := HL.out
          rw [if_pos h0] at e
          subst e
          have hq : ((bodies.length : Int) == 0) = true := by simp [h0]
          have hq2 : (bodies.length == 0) = true := by simp [h0]
          clear h0
          go_wp2_with fail
          go_meet
          case rel => exact ⟨rfl, rfl⟩
        · have e := HL.out
          rw [if_neg h0] at e
          subst e
          have hq : ((bodies.length : Int) == 0) = false := by rw [beq_eq_false_iff_ne]; omega
          have hq2 : (bodies.length == 0) = false := by rw [beq_eq_false_iff_ne]; omega
          clear h0
          go_wp2_with fail
          go_meet
          case rel => exact ⟨rfl, rfl⟩
      case rest =>
        obtain ⟨rfl, rfl⟩ := hcut
        go_wp2_with fail
        refine (fsplit_any L T _ (by omega)).mono ?_
        rintro en w1 ⟨v0, rfl, hR, hB⟩
        rw [HCU.out] at hR ⊢
        obtain ⟨Ac, cc, rfl⟩ := Kd.R_slice hR
        have t0 : ((0 : Int) != 0) = false := rfl
        have t1 : ((T.size : Int) != (T.size : Int)) = false := by simp
        have rW1 := Kd.R_below RW_.out hB
        have B1 := rB.trans (hB.mono rB.size)
        have HR1 := Lib.hid hR
        have HW1 := Lib.hid rW1
        have HB1 := Lib.hid B1
        clear hR rW1 B1 hB rB RW_
        go_wp2_with fail
        refine gen1 (w := w1) (G := fun W => Calls _ _ _ W _) fun W hBW hzW kC => ?_
        have rC := Kd.R_below HR1.out hBW
        have rW := Kd.R_below HW1.out hBW
        have rB : Below w.heap.size w W := HB1.out.trans (hBW.mono HB1.out.size)
        refine (rosterlaw03_same.calls _ Ac cc ms Aw cw ms true W (Kd.R_reads' rC).2.2 (Kd.R_reads' rC).2.1 (Kd.R_reads' rW).2.2 (Kd.R_reads' rW).2.1 (same_f ms (by rw [HML.out]; omega))).mono ?_
        rintro en w2 ⟨rfl, nd, rfl⟩
        have rW2 := Kd.R_drewN rW nd
        have rB2 : Below w.heap.size w (W.drewN nd) := below_draws rB nd
        have HW2 := Lib.hid rW2
        have HB2 := Lib.hid rB2
        clear rC rW rB hBW hzW kC HR1 HW1 HB1 rW2 rB2 t1
        generalize W.drewN nd = w2 at HW2 HB2 ⊢
        go_wp2_with fail
        refine (New_st L w2).mono ?_
        rintro en w3 ⟨g, rfl, hg, hF, hB3⟩
        have rW3 := Kd.R_below HW2.out hB3
        have B3 : Below w.heap.size w w3 := HB2.out.trans (hB3.mono HB2.out.size)
        obtain ⟨N, hN⟩ : ∃ N, N = w3.heap.size := ⟨_, rfl⟩
        have rM : Kd.R Kd.string 9 w3 w.heap.size (fun q => q < N) (.slice Aw ms.length cw) ms := Kd.R_mono (Kd.R_bound rW3) (fun q hq => by rw [hN]; exact hq.2.2.1)
        have zz : w.heap.size ≤ w2.heap.size := HB2.out.size
        have gN : w.heap.size ≤ g := by omega
        have NN : N ≤ w3.heap.size := by omega
        have wN : w.heap.size ≤ N := by rw [hN]; exact B3.size
        have RM := Lib.hid rM
        have HF3 := Lib.hid hF
        have HB4 := Lib.hid B3
        clear rW3 rM hF B3 hB3 HW2 HB2 hN
        go_wp2_with fail
        go_loopw [10, 11] (fun vg vi wr => ∃ (i : Nat) (v : Value), i ≤ T.size ∧ vi = .int .i64 i ∧ FrSt wr w2.heap.size g v L (T.extract 0 i) ∧
            Kd.R Kd.string 9 wr N (fun _ => True) vg (cutAt L (T.extract 0 i) 0).1 ∧ Kd.R Kd.string 9 wr w.heap.size (fun q => q < N) (.slice Aw ms.length cw) ms ∧ Below w.heap.size w wr ∧ N ≤ wr.heap.size)
          (fun _ i _ => T.size - (intOf i).toNat)
        case atStart =>
          have e0 : T.extract 0 0 = ⟨#[]⟩ := by
            apply ByteArray.ext
            simp
          have c0 : cutAt L ⟨#[]⟩ 0 = ([], 0, 0) := cutAt_end (Nat.le_refl _)
          refine ⟨0, .slice none 0 0, Nat.zero_le _, rfl, by rw [e0]; exact HF3.out, by rw [e0, c0]; exact Kd.R_nil _ _ _ _ _, RM.out, HB4.out, NN⟩
        case round =>
          obtain ⟨i, v, hi, rfl, hF, rG, rM, rB, rN⟩ := hrel
          by_cases hil : i < T.size
          · obtain ⟨s1, s2, s3, s4⟩ := HST.out i hil
            obtain ⟨pre, hpre⟩ : ∃ pre, pre = T.extract 0 i := ⟨_, rfl⟩
            obtain ⟨u, hu⟩ : ∃ u, T.extract i (i + 1) = u := ⟨_, rfl⟩
            have hst := ext_step T i hil
            rw [hu, ← hpre] at hst
            rw [← hpre] at hF rG s1 s4
            rw [hst] at s2 s3 s4
            have hpz : pre.size = i := by rw [hpre, ByteArray.size_extract]; omega
            have huz : u.size = 1 := by rw [← hu, ByteArray.size_extract]; omega
            obtain ⟨nv, hnv⟩ : ∃ nv, nv = needS L (keptS pre (cutAt L pre 0)) := ⟨_, rfl⟩
            have hnd := Need_st wr w2.heap.size g v L pre hF (by omega)
            rw [if_pos s1, ← hnv] at hnd
            rw [← hnv] at s4
            obtain ⟨hs, hhs⟩ : ∃ hs, hs = (keptS (pre ++ u) (cutAt L (pre ++ u) 0)).size := ⟨_, rfl⟩
            rw [← hhs] at s3
            have HND := Lib.hid hnd
            have HS2 := Lib.hid s2
            have HS4 := Lib.hid s4
            have HHS := Lib.hid hhs
            have HSTP := Lib.hid hst
            have HFF := Lib.hid hF
            have RG := Lib.hid rG
            have HUZ := Lib.hid huz
            have HPZ := Lib.hid hpz
            clear hnd s2 s4 hhs hst hF rG s1 hnv hpre huz hpz
            go_wp2_with fail
            refine HND.out.mono ?_
            rintro en w4 ⟨rfl, b4⟩
            have hF4 := HFF.out.at b4
            have rG4 := Kd.R_below RG.out b4
            have rM4 := Kd.R_below rM b4
            have B4 := rB.trans (b4.mono rB.size)
            have N4 : N ≤ w4.heap.size := Nat.le_trans rN b4.size
            have q0 : (0 : Int) ≤ i := by omega
            have q1 : (i : Int) + 1 ≤ T.size := by omega
            have hcv := fun V => str_conv u V
            have hC := str_reads w4 u (by rw [HUZ.out]; decide)
            have hBV := str_below w4 u
            have hFV := hF4.at hBV
            have rG5 := Kd.R_below rG4 hBV
            have rM5 := Kd.R_below rM4 hBV
            have B5 : Below w.heap.size w (Lib.bytesWorld w4 5 u) := B4.trans (hBV.mono B4.size)
            have N5 : N ≤ (Lib.bytesWorld w4 5 u).heap.size := Nat.le_trans N4 hBV.size
            have WB : w2.heap.size ≤ (Lib.bytesWorld w4 5 u).heap.size := by have := hFV.mem.lt; omega
            have hle : pre.size + u.size ≤ 16777216 := by rw [HUZ.out, HPZ.out]; omega
            have hcap : u.size ≤ grownCap w4 u.size 0 5 := grownCap_ge _ _ _ _
            have HFV := Lib.hid hFV
            have RG5 := Lib.hid rG5
            have RM5 := Lib.hid rM5
            have RB5 := Lib.hid B5
            have HC := Lib.hid hC
            clear HND HFF RG rM rB b4 hF4 rG4 rM4 B4 N4 hC hBV hFV rG5 rM5 B5 rN
            go_wp2_with fail
            refine (Feed_pre _ w2.heap.size g v L pre u _ _ HFV.out HC.out hcap WB hle).mono ?_
            rintro en w5 ⟨v0, v', m, rfl, hm, hRm, hF5, ho, hT⟩
            rw [HS2.out]
            have rG6 := hT.over HFV.out RG5.out (by decide)
            have rM6 := hT.over HFV.out RM5.out (by decide)
            have B6 := hT.base HFV.out RB5.out RB5.out.size gN zz
            have N6 : N ≤ w5.heap.size := Nat.le_trans N5 hT.size
            have hm1 : m = [] ∨ ∃ x, m = [x] ∧ nv = 1 := by
              rcases HS4.out with h | ⟨x, h, h2⟩
              · rw [hm] at h
                exact .inl (by simpa using h)
              · rw [hm] at h
                exact .inr ⟨x, List.append_cancel_left h, h2⟩
            have hcnt := cut_count L (pre ++ u) ((pre ++ u).size + 1) 0 (Nat.zero_le _) (by omega)
            have hpu : (pre ++ u).size = pre.size + u.size := ByteArray.size_append
            rw [hm, hpu, List.length_append] at hcnt
            have hlen : ((cutAt L pre 0).1.length + m.length) * 16 ≤ 140737488355328 := by omega
            obtain ⟨Ag, cg, rfl⟩ := Kd.R_slice rG6
            obtain ⟨Am, cm', rfl, qm, hCm⟩ := Kd.R_reads hRm
            have hH : Calls Try.prog 27 #[.pointer (some ⟨g, 0, none⟩)] w5 fun e w' => e = .returned (.int .i64 (hs : Nat)) ∧ w5 = w' := by
              have := Held_st w5 w2.heap.size g v' L (pre ++ u) hF5
              rw [← HHS.out] at this
              exact this
            have HH := Lib.hid hH
            have HM := Lib.hid hm
            have HF5 := Lib.hid hF5
            have RG6 := Lib.hid rG6
            have RM6 := Lib.hid rM6
            have HB6 := Lib.hid B6
            have HCM := Lib.hid hCm
            have hdl : decide (L ≤ (hs : Int)) = false := decide_eq_false (by omega)
            clear hH hm hF5 rG6 rM6 B6 hCm HFV RG5 RM5 RB5 HC hT ho hRm hcnt hpu hcv HS2 HS4 hcap
            go_wp2_with fail
            refine HH.out.mono ?_
            rintro en w6 ⟨rfl, rfl⟩
            have done : ∀ (v6 : Value) (w6 : World), Kd.R Kd.string 9 w6 N (fun _ => True) v6 ((cutAt L pre 0).1 ++ m) → w5.grownBy w6 (Value.slice Ag (cutAt L pre 0).1.length cg).ownBlock →
                FrSt w6 w2.heap.size g v' L (T.extract 0 (i + 1)) ∧ Kd.R Kd.string 9 w6 N (fun _ => True) v6 (cutAt L (T.extract 0 (i + 1)) 0).1 ∧ Kd.R Kd.string 9 w6 w.heap.size (fun q => q < N) (.slice Aw ms.length cw) ms ∧ Below w.heap.size w w6 ∧ N ≤ w6.heap.size := by
              intro v6 w6 hR6 hg6
              have hb := fun q hq => ((Kd.R_bound RG6.out).1 q hq).2.1
              refine ⟨?_, ?_, Kd.R_grown RM6.out hg6 (fun q hq e => by have := hb q e.symm; omega), HB6.out.grown hg6 HB6.out.size (fun q hq => by have := hb q hq; have := NN; omega), Nat.le_trans N6 hg6.size⟩
              · rw [HSTP.out]; exact FrAt.grown HF5.out RG6.out (by decide) (by decide) hg6
              · rw [HSTP.out, HM.out]; exact hR6
            have DONE := Lib.hid done
            clear done
            rcases hm1 with rfl | ⟨x, rfl, hn1⟩
            · go_upto_region 23 with (at_builtin; go_must (refine Kd.R_append_row (w0 := w5) Value.string ByteArray.empty N rfl (.tmp 117) (.tmp 118) 24 9 (.string ⟨#[]⟩) 16 rfl Try.underlying24 info_str rfl (by decide) (.slice Ag (cutAt L pre 0).1.length cg) (cutAt L pre 0).1 [] Am ([] : List ByteArray).length cm' (fun _ => True) rfl rfl (fun _ _ => trivial) RG6.out HCM.out (Below.refl _ _) N6 hlen ?_); intro v6 w6 hR6 hb6 hg6 hat6)
              have hd := DONE.out v6 w6 hR6 hg6
              have HD := Lib.hid hd
              clear hR6 hb6 hg6 hat6 hd
              go_wp2
              go_roundw
              case rel => exact ⟨i + 1, v', by omega, by go_num, HD.out.1, HD.out.2.1, HD.out.2.2.1, HD.out.2.2.2.1, HD.out.2.2.2.2⟩
              case measure => simp [intOf]; omega
            · subst hn1
              go_upto_region 23 with (at_builtin; go_must (refine Kd.R_append_row (w0 := w5) Value.string ByteArray.empty N rfl (.tmp 117) (.tmp 118) 24 9 (.string ⟨#[]⟩) 16 rfl Try.underlying24 info_str rfl (by decide) (.slice Ag (cutAt L pre 0).1.length cg) (cutAt L pre 0).1 [x] Am [x].length cm' (fun _ => True) rfl rfl (fun _ _ => trivial) RG6.out HCM.out (Below.refl _ _) N6 hlen ?_); intro v6 w6 hR6 hb6 hg6 hat6)
              have hd := DONE.out v6 w6 hR6 hg6
              have HD := Lib.hid hd
              clear hR6 hb6 hg6 hat6 hd
              go_wp2
              go_roundw
              case rel => exact ⟨i + 1, v', by omega, by go_num, HD.out.1, HD.out.2.1, HD.out.2.2.1, HD.out.2.2.2.1, HD.out.2.2.2.2⟩
              case measure => simp [intOf]; omega
          · obtain rfl : i = T.size := by omega
            rw [extract_whole, HCU.out] at rG
            rw [extract_whole] at hF
            have hk : keptS T (ms, (T.size : Int), 0) = ⟨#[]⟩ := by
              unfold keptS
              rw [if_pos rfl]
              apply ByteArray.ext
              simp
            have h1 := Held_st wr w2.heap.size g v L T hF
            have h2 := Need_st wr w2.heap.size g v L T hF (by omega)
            rw [HCU.out, hk] at h1 h2
            have en : needS L ⟨#[]⟩ = 2 := rfl
            rw [if_pos rfl, en] at h2
            have ez : (((⟨#[]⟩ : ByteArray).size : Nat) : Int) = 0 := rfl
            rw [ez] at h1
            obtain ⟨Ag, cg, rfl⟩ := Kd.R_slice rG
            have H1 := Lib.hid h1
            have H2 := Lib.hid h2
            clear h1 h2 hk en ez hF
            go_wp2_with fail
            refine H1.out.mono ?_
            rintro en w6 ⟨rfl, rfl⟩
            go_wp2_with fail
            refine H2.out.mono ?_
            rintro en w6 ⟨rfl, b6⟩
            have rG6 := Kd.R_below rG b6
            have rM6 := Kd.R_below rM b6
            have B6 := rB.trans (b6.mono rB.size)
            go_wp2_with fail
            refine (rosterlaw03_same.calls _ Ag cg ms Aw cw ms true w6 (Kd.R_reads' rG6).2.2 (Kd.R_reads' rG6).2.1 (Kd.R_reads' rM6).2.2 (Kd.R_reads' rM6).2.1 (same_f ms (by rw [HML.out]; omega))).mono ?_
            rintro en w7 ⟨rfl, nd7, rfl⟩
            go_wp2_with fail
            go_ret
            exact ⟨rfl, below_draws B6 _⟩
theorem C_iso {α β : Type} {d : Kd α} {f : β → α} {w : World} {A : Option Addr} {n : Nat} {xs : List β} (h : Kd.C (Kd.iso d f) w A n xs) : Kd.C d w A n (xs.map f) := by
  obtain ⟨h1, h2, h3⟩ := h
  refine ⟨by rw [List.length_map]; exact h1, h2, fun hn => ?_⟩
  obtain ⟨ad, e, hc⟩ := h3 hn
  refine ⟨ad, e, fun j p hj => ?_⟩
  rw [List.getElem?_map] at hj
  obtain ⟨q, hq, rfl⟩ := Option.map_eq_some_iff.1 hj
  exact hc j q hq
theorem joins_size (l : List (Int × ByteArray)) : (joinL (l.map msgOf)).size ≤ (l.map fun x => x.2.size + 6).sum := by
  induction l with
  | nil => exact Nat.le_refl _
  | cons x l ih =>
    have h1 := msgOf_size x
    have h2 := (shortS_size x.2).2
    have h3 : (msgOf x ++ joinL (l.map msgOf)).size = (msgOf x).size + (joinL (l.map msgOf)).size := ByteArray.size_append
    rw [List.map_cons, joinL, h3, List.map_cons, List.sum_cons]
    omega
end Go.Proofs.Ytcjlpedpiljnmaa.W
