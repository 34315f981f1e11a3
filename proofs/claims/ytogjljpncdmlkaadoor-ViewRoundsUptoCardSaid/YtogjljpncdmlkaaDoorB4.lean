/- Texts of this claim in one: GXx1 -/
import Derived.Test.YtogjljpncdmlkaaDoorB3
section
namespace Go.Proofs.YtogjljpncdmlkaaDoor.GX
open Go.RowKit Go.Proofs.YtogjljpncdmlkaaDoorW.PrintWords Go.Proofs.YtogjljpncdmlkaaDoorW.PrintLast Go.Proofs.YtogjljpncdmlkaaDoorW.PrintMore
attribute [local go_sem] max2_int min2_int max_two min_two max_three min_three max_four min_four   -- for this text's walks alone
set_option linter.unusedVariables false
set_option linter.unusedSimpArgs false
mutual
def text_missing.j0 : Nat → Int → Bool → Int → Int → Option (Int × Int × Int × Bool)
 | 0, _, _, _, _ => none
 | k + 1, x0, x11, x103000, x103001 => if x11 = true then (some (1, x103000, x103001, true)) else (if x0 = 224 then (some (2, 160, 191, true)) else (if x0 = 237 then (some (2, 128, 159, true)) else (if x0 ≥ 225 then (text_missing.j1 k x0 (decide (x0 ≤ 239)) x103000 x103001) else (text_missing.j1 k x0 false x103000 x103001))))
def text_missing.j1 : Nat → Int → Bool → Int → Int → Option (Int × Int × Int × Bool)
 | 0, _, _, _, _ => none
 | k + 1, x0, x27, x103000, x103001 => if x27 = true then (some (2, x103000, x103001, true)) else (if x0 = 240 then (some (3, 144, 191, true)) else (if x0 ≥ 241 then (text_missing.j2 k x0 (decide (x0 ≤ 243)) x103000 x103001) else (text_missing.j2 k x0 false x103000 x103001)))
def text_missing.j2 : Nat → Int → Bool → Int → Int → Option (Int × Int × Int × Bool)
 | 0, _, _, _, _ => none
 | k + 1, x0, x39, x103000, x103001 => if x39 = true then (some (3, x103000, x103001, true)) else (if x0 = 244 then (some (3, 128, 143, true)) else (some (0, x103000, x103001, false)))
end
def text_missing.f (k : Nat) (a0 : Int) : Option (Int × Int × Int × Bool) := if a0 < 128 then (some (0, 128, 191, true)) else (if a0 ≥ 194 then (text_missing.j0 k a0 (decide (a0 ≤ 223)) 128 191) else (text_missing.j0 k a0 false 128 191))
set_option maxHeartbeats 8000000 in
set_option maxRecDepth 100000 in
theorem text_missing.calls (k : Nat) (a0 : Int) (r1 : Int) (r2 : Int) (r3 : Int) (r4 : Bool) (w : World) (h : text_missing.f k a0 = some (r1, r2, r3, r4)) :
  Calls Tryd.prog 58 #[.int .u8 a0] w fun e w' => e = .returned (.tuple #[.int .i64 r1, .agg #[.int .u8 r2, .int .u8 r3], .bool r4]) ∧ Below w.heap.size w w' := by
 have hu107 := Tryd.underlying107
 have HB := Aside0.mk (Below.refl w.heap.size w)
 have H : (if a0 < 128 then (some (0, 128, 191, true)) else (if a0 ≥ 194 then (text_missing.j0 k a0 (decide (a0 ≤ 223)) 128 191) else (text_missing.j0 k a0 false 128 191))) = some (r1, r2, r3, r4) := h
 clear h
 by_cases c2 : a0 < 128
 ·rw [if_pos c2] at H
  have c2b0 : decide (a0 < 128) = true := decide_eq_true c2
  clear c2
  simp only [Option.some.injEq, Prod.mk.injEq] at H
  obtain ⟨rfl, rfl, rfl, rfl⟩ := H
  go_enter Tryd.func58, Tryd.ntmps58
  try go_wp2_with (first | ((with_reducible refine gate_dst (N := 3) rfl ?_); refine box_event ?hg (N := 3) ?hd (cs := #[.int .u8 0, .int .u8 0]) (t := 107) ?hr ?_; (case hd => rfl); (case hg => rfl); (case hr => first | (go_simp; done) | (go_simp; rfl)); intro gb101 hg w3 hbox hb; have n0_ := Aside0.mk (below_step q1_ hb); have n1_ := Aside0.mk (hbox); have n2_ := Aside0.mk ((by rw [hg]; exact (below_size q1_) : w.heap.size ≤ gb101)); have n3_ := Aside0.mk ((by rw [hg]; exact (below_size q1_) : w.heap.size ≤ gb101)); clear HB; have HB := n0_; have BK101 := n1_; have GW101 := n2_; have GE101 := n3_; clear n0_ n1_ n2_ n3_; clear hb hbox hg) | ((with_reducible refine gate_dst (N := 5) rfl ?_); refine box_event ?hg (N := 5) ?hd (cs := #[.int .u8 0, .int .u8 0]) (t := 107) ?hr ?_; (case hd => rfl); (case hg => rfl); (case hr => first | (go_simp; done) | (go_simp; rfl)); intro gb102 hg w4 hbox hb; have n0_ := Aside0.mk (blk_below (g := gb101) (o := .cells #[.int .u8 0, .int .u8 0] 107 (0, 0)) q17_ hb); have n1_ := Aside0.mk (below_step q19_ hb); have n2_ := Aside0.mk (hbox); have n3_ := Aside0.mk ((by rw [hg]; exact (below_size q19_) : w.heap.size ≤ gb102)); have n4_ := Aside0.mk ((by rw [hg]; exact (below_size q19_) : w.heap.size ≤ gb102)); have n5_ := Aside0.mk ((by rw [hg]; exact Nat.ne_of_lt (blk_lt (g := gb101) (o := .cells #[.int .u8 0, .int .u8 0] 107 (0, 0)) q17_) : gb101 ≠ gb102)); have n6_ := Aside0.mk ((by rw [hg]; exact Nat.ne_of_gt (blk_lt (g := gb101) (o := .cells #[.int .u8 0, .int .u8 0] 107 (0, 0)) q17_) : gb102 ≠ gb101)); clear BK101; clear HB; have BK101 := n0_; have HB := n1_; have BK102 := n2_; have GW102 := n3_; have GE102 := n4_; have NB101_102 := n5_; have NB102_101 := n6_; clear n0_ n1_ n2_ n3_ n4_ n5_ n6_; clear hb hbox hg; have hnb5 := NB102_101.out; have hnc5 := NB101_102.out; have hcz6_0 : w4.cell? ⟨gb102, 0, none⟩ = some (.int .u8 0) := (blk_cell BK102.out 0).trans rfl; have hcz6_1 : w4.cell? ⟨gb102, 1, none⟩ = some (.int .u8 0) := (blk_cell BK102.out 1).trans rfl; have hfz6_0 := blk_frozen BK102.out 0; have hfz6_1 := blk_frozen BK102.out 1))
  have n0_ : Aside0 (((w4.setCell ⟨gb102, 0, none⟩ (.int .u8 128)).setCell ⟨gb102, 1, none⟩ (.int .u8 191)).heap[gb101]? = some (.cells #[.int .u8 0, .int .u8 0] 107 (0, 0))) := ⟨q18_⟩
  have n1_ : Aside0 (((w4.setCell ⟨gb102, 0, none⟩ (.int .u8 128)).setCell ⟨gb102, 1, none⟩ (.int .u8 191)).heap[gb102]? = some (.cells #[.int .u8 128, .int .u8 191] 107 (0, 0))) := ⟨q16_⟩
  have n2_ : Aside0 (Below w.heap.size w ((w4.setCell ⟨gb102, 0, none⟩ (.int .u8 128)).setCell ⟨gb102, 1, none⟩ (.int .u8 191))) := ⟨q7_⟩
  (try clear BK101)
  (try clear BK102)
  (try clear HB)
  generalize ((w4.setCell ⟨gb102, 0, none⟩ (.int .u8 128)).setCell ⟨gb102, 1, none⟩ (.int .u8 191)) = w7 at n0_ n1_ n2_ ⊢
  have BK101 := n0_
  have BK102 := n1_
  have HB := n2_
  clear n0_ n1_ n2_
  have n0_ := Aside0.mk (blk_drew BK101.out)
  have n1_ := Aside0.mk (blk_drew BK102.out)
  have n2_ := Aside0.mk (below_drew1 HB.out)
  clear BK101
  clear BK102
  clear HB
  have BK101 := n0_
  have BK102 := n1_
  have HB := n2_
  clear n0_ n1_ n2_
  refine start_ (n := 4) (S := fun w' => w'.cell? ⟨gb102, 0, none⟩ = some (.int .u8 128) ∧ w'.cell? ⟨gb102, 1, none⟩ = some (.int .u8 191)) (ds := []) #[false, false, false, false] q13_ rfl rfl ⟨(blk_cell BK102.out 0).trans rfl, (blk_cell BK102.out 1).trans rfl⟩ (fun hHeld => ?_)
  generalize w7.drew = w8 at BK101 BK102 HB hHeld ⊢
  refine pure_ (i := 1) (N := some 2) (v := ?_) (a' := ?_) #[false, true, false, false] rfl rfl q13_ (fun _ _ _ h => h) (Or.inl ⟨q30_, ?_⟩) ?_ ?_
  rotate_left
  ·intro w'
   go_simp
   with_reducible rfl
  rotate_left
  ·simp only [Act.put, List.setIfInBounds_toArray, List.set_cons_zero, List.set_cons_succ, i64_w, i32_w]
   rfl
  refine take_ (i := 0) (N := some 10) (v := ?_) (a' := ?_) #[true, true, false, false] rfl rfl q13_ (fun _ _ _ h => h) (Or.inl ⟨q30_, ?_⟩) hHeld ?_ ?_
  rotate_left
  ·rintro w' ⟨s0, s1⟩
   go_simp
   with_reducible rfl
  rotate_left
  ·simp only [Act.put, List.setIfInBounds_toArray, List.set_cons_zero, List.set_cons_succ, i64_w, i32_w]
   rfl
  refine one_ (i := 2) (N := none) #[true, true, true, false] rfl rfl q13_ q14_ (fun K hK => ?_)
  have hs9 : w8.cell? ⟨gb101, 0, none⟩ = some (.int .u8 0) := (blk_cell BK101.out 0).trans rfl
  have hfs9 := blk_frozen BK101.out 0
  have hns9_1 := NB102_101.out
  have hms9_1 := NB101_102.out
  have hs10 : w8.cell? ⟨gb101, 1, none⟩ = some (.int .u8 0) := (blk_cell BK101.out 1).trans rfl
  have hfs10 := blk_frozen BK101.out 1
  have hns10_1 := NB102_101.out
  have hms10_1 := NB101_102.out
  refine skip_ (w1 := ?_) q30_ rfl ?_ ?_
  rotate_left
  ·go_simp
   rfl
  refine hK.out _ _ ⟨((cell_far (p := ⟨gb101, _, none⟩) NB102_101.out _).trans (((cell_far (p := ⟨gb101, _, none⟩) NB102_101.out _).trans (hHeld.1)))), ((cell_far (p := ⟨gb101, _, none⟩) NB102_101.out _).trans (((cell_far (p := ⟨gb101, _, none⟩) NB102_101.out _).trans (hHeld.2))))⟩ (fun hHeld => ?_)
  clear hK K
  refine pure_ (i := 3) (N := some 4) (v := ?_) (a' := ?_) #[true, true, true, true] rfl rfl q13_ (fun _ _ _ h => h) (Or.inl ⟨q30_, ?_⟩) ?_ ?_
  rotate_left
  ·intro w'
   go_simp
   with_reducible rfl
  rotate_left
  ·simp only [Act.put, List.setIfInBounds_toArray, List.set_cons_zero, List.set_cons_succ, i64_w, i32_w]
   rfl
  refine done_ q13_ ?_
  try go_wp2
  refine bodyPost_ret (results_list (rs := [.tmp 2, .cell 3 107, .tmp 4]) rfl q21_ (.tmp (.cell gb101 107 #[.int .u8 128, .int .u8 191] (0, 0) _ rfl q8_ Tryd.underlying107 rfl q13_ (.tmp .nil)))) rfl ?_
  exact ⟨q6_, q7_⟩
 ·rw [if_neg c2] at H
  have c2b0 : decide (a0 < 128) = false := decide_eq_false c2
  clear c2
  have HC11 := Aside0.mk H
  clear H
  go_enter Tryd.func58, Tryd.ntmps58
  go_upto_region 4 with (first | ((with_reducible refine gate_dst (N := 3) rfl ?_); refine box_event ?hg (N := 3) ?hd (cs := #[.int .u8 0, .int .u8 0]) (t := 107) ?hr ?_; (case hd => rfl); (case hg => rfl); (case hr => first | (go_simp; done) | (go_simp; rfl)); intro gb101 hg w12 hbox hb; have n0_ := Aside0.mk (below_step q1_ hb); have n1_ := Aside0.mk (hbox); have n2_ := Aside0.mk ((by rw [hg]; exact (below_size q1_) : w.heap.size ≤ gb101)); have n3_ := Aside0.mk ((by rw [hg]; exact (below_size q1_) : w.heap.size ≤ gb101)); clear HB; have HB := n0_; have BK101 := n1_; have GW101 := n2_; have GE101 := n3_; clear n0_ n1_ n2_ n3_; clear hb hbox hg) | ((with_reducible refine gate_dst (N := 5) rfl ?_); refine box_event ?hg (N := 5) ?hd (cs := #[.int .u8 0, .int .u8 0]) (t := 107) ?hr ?_; (case hd => rfl); (case hg => rfl); (case hr => first | (go_simp; done) | (go_simp; rfl)); intro gb102 hg w13 hbox hb; have n0_ := Aside0.mk (blk_below (g := gb101) (o := .cells #[.int .u8 0, .int .u8 0] 107 (0, 0)) q17_ hb); have n1_ := Aside0.mk (below_step q19_ hb); have n2_ := Aside0.mk (hbox); have n3_ := Aside0.mk ((by rw [hg]; exact (below_size q19_) : w.heap.size ≤ gb102)); have n4_ := Aside0.mk ((by rw [hg]; exact (below_size q19_) : w.heap.size ≤ gb102)); have n5_ := Aside0.mk ((by rw [hg]; exact Nat.ne_of_lt (blk_lt (g := gb101) (o := .cells #[.int .u8 0, .int .u8 0] 107 (0, 0)) q17_) : gb101 ≠ gb102)); have n6_ := Aside0.mk ((by rw [hg]; exact Nat.ne_of_gt (blk_lt (g := gb101) (o := .cells #[.int .u8 0, .int .u8 0] 107 (0, 0)) q17_) : gb102 ≠ gb101)); clear BK101; clear HB; have BK101 := n0_; have HB := n1_; have BK102 := n2_; have GW102 := n3_; have GE102 := n4_; have NB101_102 := n5_; have NB102_101 := n6_; clear n0_ n1_ n2_ n3_ n4_ n5_ n6_; clear hb hbox hg; have hnb14 := NB102_101.out; have hnc14 := NB101_102.out; have hcz15_0 : w13.cell? ⟨gb102, 0, none⟩ = some (.int .u8 0) := (blk_cell BK102.out 0).trans rfl; have hcz15_1 : w13.cell? ⟨gb102, 1, none⟩ = some (.int .u8 0) := (blk_cell BK102.out 1).trans rfl; have hfz15_0 := blk_frozen BK102.out 0; have hfz15_1 := blk_frozen BK102.out 1))
  (try simp only [Act.put, List.setIfInBounds_toArray, List.set_cons_zero, List.set_cons_succ])
  go_cut [11] (fun v11 wc => ∃ (kq : Nat) (x11_10 : Bool), v11 = .bool x11_10 ∧ Aside0 (text_missing.j0 kq a0 x11_10 128 191 = some (r1, r2, r3, r4)) ∧ Aside0 (kq ≤ k) ∧ Aside0 (wc.heap[gb101]? = some (.cells #[.int .u8 0, .int .u8 0] 107 (0, 0))) ∧ Aside0 (wc.heap[gb102]? = some (.cells #[.int .u8 128, .int .u8 191] 107 (0, 0))) ∧ Aside0 (Below w.heap.size w wc))
  case first =>
   have H := HC11.out
   clear HC11
   by_cases c16 : a0 ≥ 194
   ·rw [if_pos c16] at H
    have c16b0 : decide (194 ≤ a0) = true := decide_eq_true c16
    clear c16
    (first | rw [c16b0] | rw [c16be] | (simp only [i64_w, i32_w]; rw [c16b0]) | skip)
    have H' := Aside0.mk H
    clear H
    go_wp2
    go_meet
    case rel => exact ⟨_, (decide (a0 ≤ 223)), q3_, H', ⟨q40_⟩, ⟨q18_⟩, ⟨q16_⟩, ⟨q7_⟩⟩
   ·rw [if_neg c16] at H
    have c16b0 : decide (194 ≤ a0) = false := decide_eq_false c16
    clear c16
    (first | rw [c16b0] | rw [c16be] | (simp only [i64_w, i32_w]; rw [c16b0]) | skip)
    have H' := Aside0.mk H
    clear H
    go_wp2
    go_meet
    case rel => exact ⟨_, (false), q3_, H', ⟨q40_⟩, ⟨q18_⟩, ⟨q16_⟩, ⟨q7_⟩⟩
  case rest =>
   clear HC11
   try clear c1
   try clear c2
   try clear c2b0
   try clear p2
   try clear c5
   try clear c14
   try clear c16
   try clear c16b0
   try clear hcz15_0 hcz15_1
   try clear hcz6_0 hcz6_1
   try clear hfz15_0 hfz15_1
   try clear hfz6_0 hfz6_1
   obtain ⟨kq, x11_10, rfl, HA, HJ10, BK101, BK102, HB⟩ := hcut
   cases kq with
   | zero => exact absurd HA.out (by simp [text_missing.j0])
   | succ kj10 =>
    have H := HA.out
    clear HA
    simp only [text_missing.j0] at H
    by_cases c17 : x11_10 = true
    ·subst c17
     have H1 : (some (1, 128, 191, true)) = some (r1, r2, r3, r4) := by rw [if_pos rfl] at H; exact H
     clear H
     have H := H1
     clear H1
     simp only [Option.some.injEq, Prod.mk.injEq] at H
     obtain ⟨rfl, rfl, rfl, rfl⟩ := H
     try go_wp2
     have n0_ := Aside0.mk (blk_drew BK101.out)
     have n1_ := Aside0.mk (blk_drew BK102.out)
     have n2_ := Aside0.mk (below_drew1 HB.out)
     clear BK101
     clear BK102
     clear HB
     have BK101 := n0_
     have BK102 := n1_
     have HB := n2_
     clear n0_ n1_ n2_
     refine start_ (n := 4) (S := fun w' => w'.cell? ⟨gb102, 0, none⟩ = some (.int .u8 128) ∧ w'.cell? ⟨gb102, 1, none⟩ = some (.int .u8 191)) (ds := []) #[false, false, false, false] q13_ rfl rfl ⟨(blk_cell BK102.out 0).trans rfl, (blk_cell BK102.out 1).trans rfl⟩ (fun hHeld => ?_)
     generalize wc.drew = w18 at BK101 BK102 HB hHeld ⊢
     refine pure_ (i := 1) (N := some 2) (v := ?_) (a' := ?_) #[false, true, false, false] rfl rfl q13_ (fun _ _ _ h => h) (Or.inl ⟨q30_, ?_⟩) ?_ ?_
     rotate_left
     ·intro w'
      go_simp
      with_reducible rfl
     rotate_left
     ·simp only [Act.put, List.setIfInBounds_toArray, List.set_cons_zero, List.set_cons_succ, i64_w, i32_w]
      rfl
     refine take_ (i := 0) (N := some 18) (v := ?_) (a' := ?_) #[true, true, false, false] rfl rfl q13_ (fun _ _ _ h => h) (Or.inl ⟨q30_, ?_⟩) hHeld ?_ ?_
     rotate_left
     ·rintro w' ⟨s0, s1⟩
      go_simp
      with_reducible rfl
     rotate_left
     ·simp only [Act.put, List.setIfInBounds_toArray, List.set_cons_zero, List.set_cons_succ, i64_w, i32_w]
      rfl
     refine one_ (i := 2) (N := none) #[true, true, true, false] rfl rfl q13_ q14_ (fun K hK => ?_)
     have hs19 : w18.cell? ⟨gb101, 0, none⟩ = some (.int .u8 0) := (blk_cell BK101.out 0).trans rfl
     have hfs19 := blk_frozen BK101.out 0
     have hns19_1 := NB102_101.out
     have hms19_1 := NB101_102.out
     have hs20 : w18.cell? ⟨gb101, 1, none⟩ = some (.int .u8 0) := (blk_cell BK101.out 1).trans rfl
     have hfs20 := blk_frozen BK101.out 1
     have hns20_1 := NB102_101.out
     have hms20_1 := NB101_102.out
     refine skip_ (w1 := ?_) q30_ rfl ?_ ?_
     rotate_left
     ·go_simp
      rfl
     refine hK.out _ _ ⟨((cell_far (p := ⟨gb101, _, none⟩) NB102_101.out _).trans (((cell_far (p := ⟨gb101, _, none⟩) NB102_101.out _).trans (hHeld.1)))), ((cell_far (p := ⟨gb101, _, none⟩) NB102_101.out _).trans (((cell_far (p := ⟨gb101, _, none⟩) NB102_101.out _).trans (hHeld.2))))⟩ (fun hHeld => ?_)
     clear hK K
     refine pure_ (i := 3) (N := some 4) (v := ?_) (a' := ?_) #[true, true, true, true] rfl rfl q13_ (fun _ _ _ h => h) (Or.inl ⟨q30_, ?_⟩) ?_ ?_
     rotate_left
     ·intro w'
      go_simp
      with_reducible rfl
     rotate_left
     ·simp only [Act.put, List.setIfInBounds_toArray, List.set_cons_zero, List.set_cons_succ, i64_w, i32_w]
      rfl
     refine done_ q13_ ?_
     try go_wp2
     refine bodyPost_ret (results_list (rs := [.tmp 2, .cell 3 107, .tmp 4]) rfl q21_ (.tmp (.cell gb101 107 #[.int .u8 128, .int .u8 191] (0, 0) _ rfl q8_ Tryd.underlying107 rfl q13_ (.tmp .nil)))) rfl ?_
     exact ⟨q6_, q7_⟩
    ·replace c17 := Bool.eq_false_iff.mpr c17
     subst c17
     have H1 : (if a0 = 224 then (some (2, 160, 191, true)) else (if a0 = 237 then (some (2, 128, 159, true)) else (if a0 ≥ 225 then (text_missing.j1 kj10 a0 (decide (a0 ≤ 239)) 128 191) else (text_missing.j1 kj10 a0 false 128 191)))) = some (r1, r2, r3, r4) := by rw [if_neg (show ¬ (false = true) by decide)] at H; exact H
     clear H
     have H := H1
     clear H1
     by_cases c21 : a0 = 224
     ·rw [if_pos c21] at H
      have c21b0 : (a0 == 224) = true := beq_iff_eq.mpr c21
      have c21b1 : (a0 != 224) = false := bne_eq_false_iff_eq.mpr c21
      clear c21
      simp only [Option.some.injEq, Prod.mk.injEq] at H
      obtain ⟨rfl, rfl, rfl, rfl⟩ := H
      have hnb22 := NB101_102.out
      have hnc22 := NB102_101.out
      have hcz23_0 : wc.cell? ⟨gb101, 0, none⟩ = some (.int .u8 0) := (blk_cell BK101.out 0).trans rfl
      have hcz23_1 : wc.cell? ⟨gb101, 1, none⟩ = some (.int .u8 0) := (blk_cell BK101.out 1).trans rfl
      have hfz23_0 := blk_frozen BK101.out 0
      have hfz23_1 := blk_frozen BK101.out 1
      go_wp2
      refine bodyPost_ret (results_list (rs := [.tmp 2, .cell 3 107, .tmp 4]) rfl q21_ (.tmp (.cell gb101 107 #[.int .u8 160, .int .u8 191] (0, 0) _ rfl (by (with_reducible repeat (first | refine blk_drewN ?_ _ | refine blk_drew ?_ | refine blk_alloc ?_ _)); refine blk_put (cs := #[.int .u8 160, .int .u8 0]) ?_ 1 _ rfl; (with_reducible repeat (first | refine blk_drewN ?_ _ | refine blk_drew ?_ | refine blk_alloc ?_ _)); refine blk_put (cs := #[.int .u8 0, .int .u8 0]) ?_ 0 _ rfl; (with_reducible repeat (first | refine blk_drewN ?_ _ | refine blk_drew ?_ | refine blk_alloc ?_ _)); exact BK101.out) Tryd.underlying107 rfl q13_ (.tmp .nil)))) rfl ?_
      exact ⟨q6_, q7_⟩
     ·rw [if_neg c21] at H
      have c21b0 : (a0 == 224) = false := beq_eq_false_iff_ne.mpr c21
      have c21b1 : (a0 != 224) = true := bne_iff_ne.mpr c21
      by_cases c24 : a0 = 237
      ·rw [if_pos c24] at H
       have c24b0 : (a0 == 237) = true := beq_iff_eq.mpr c24
       have c24b1 : (a0 != 237) = false := bne_eq_false_iff_eq.mpr c24
       clear c24
       simp only [Option.some.injEq, Prod.mk.injEq] at H
       obtain ⟨rfl, rfl, rfl, rfl⟩ := H
       have hnb25 := NB101_102.out
       have hnc25 := NB102_101.out
       have hcz26_0 : wc.cell? ⟨gb101, 0, none⟩ = some (.int .u8 0) := (blk_cell BK101.out 0).trans rfl
       have hcz26_1 : wc.cell? ⟨gb101, 1, none⟩ = some (.int .u8 0) := (blk_cell BK101.out 1).trans rfl
       have hfz26_0 := blk_frozen BK101.out 0
       have hfz26_1 := blk_frozen BK101.out 1
       go_wp2
       refine bodyPost_ret (results_list (rs := [.tmp 2, .cell 3 107, .tmp 4]) rfl q21_ (.tmp (.cell gb101 107 #[.int .u8 128, .int .u8 159] (0, 0) _ rfl q8_ Tryd.underlying107 rfl q13_ (.tmp .nil)))) rfl ?_
       exact ⟨q6_, q7_⟩
      ·rw [if_neg c24] at H
       have c24b0 : (a0 == 237) = false := beq_eq_false_iff_ne.mpr c24
       have c24b1 : (a0 != 237) = true := bne_iff_ne.mpr c24
       have HC27 := Aside0.mk H
       clear H
       go_upto_region 10 with (fail)
       go_cut [27] (fun v27 wc => ∃ (kq : Nat) (x27_26 : Bool), v27 = .bool x27_26 ∧ Aside0 (text_missing.j1 kq a0 x27_26 128 191 = some (r1, r2, r3, r4)) ∧ Aside0 (kq ≤ kj10) ∧ Aside0 (wc.heap[gb101]? = some (.cells #[.int .u8 0, .int .u8 0] 107 (0, 0))) ∧ Aside0 (wc.heap[gb102]? = some (.cells #[.int .u8 128, .int .u8 191] 107 (0, 0))) ∧ Aside0 (Below w.heap.size w wc))
       case first =>
        have H := HC27.out
        clear HC27
        by_cases c28 : a0 ≥ 225
        ·rw [if_pos c28] at H
         have c28b0 : decide (225 ≤ a0) = true := decide_eq_true c28
         clear c28
         (first | rw [c28b0] | rw [c28be] | (simp only [i64_w, i32_w]; rw [c28b0]) | skip)
         have H' := Aside0.mk H
         clear H
         go_wp2
         go_meet
         case rel => exact ⟨_, (decide (a0 ≤ 239)), q3_, H', ⟨by have := HJ10.out; first | omega | exact Nat.le_refl _⟩, ⟨q17_⟩, ⟨q28_⟩, ⟨q7_⟩⟩
        ·rw [if_neg c28] at H
         have c28b0 : decide (225 ≤ a0) = false := decide_eq_false c28
         clear c28
         (first | rw [c28b0] | rw [c28be] | (simp only [i64_w, i32_w]; rw [c28b0]) | skip)
         have H' := Aside0.mk H
         clear H
         go_wp2
         go_meet
         case rel => exact ⟨_, (false), q3_, H', ⟨by have := HJ10.out; first | omega | exact Nat.le_refl _⟩, ⟨q17_⟩, ⟨q28_⟩, ⟨q7_⟩⟩
       case rest =>
        clear HC27
        try clear c1
        try clear c2
        try clear c2b0
        try clear p2
        try clear c5
        try clear c14
        try clear c16
        try clear c16b0
        try clear c17
        try clear c21
        try clear c21b0
        try clear c21b1
        try clear c22
        try clear c24
        try clear c24b0
        try clear c24b1
        try clear c25
        try clear c28
        try clear c28b0
        try clear hcz15_0 hcz15_1
        try clear hcz23_0 hcz23_1
        try clear hcz26_0 hcz26_1
        try clear hcz6_0 hcz6_1
        try clear hfz15_0 hfz15_1
        try clear hfz23_0 hfz23_1
        try clear hfz26_0 hfz26_1
        try clear hfz6_0 hfz6_1
        try clear p2
        obtain ⟨kq, x27_26, rfl, HA, HJ26, BK101, BK102, HB⟩ := hcut
        cases kq with
        | zero => exact absurd HA.out (by simp [text_missing.j1])
        | succ kj26 =>
         have H := HA.out
         clear HA
         simp only [text_missing.j1] at H
         by_cases c29 : x27_26 = true
         ·subst c29
          have H1 : (some (2, 128, 191, true)) = some (r1, r2, r3, r4) := by rw [if_pos rfl] at H; exact H
          clear H
          have H := H1
          clear H1
          simp only [Option.some.injEq, Prod.mk.injEq] at H
          obtain ⟨rfl, rfl, rfl, rfl⟩ := H
          try go_wp2
          have n0_ := Aside0.mk (blk_drew BK101.out)
          have n1_ := Aside0.mk (blk_drew BK102.out)
          have n2_ := Aside0.mk (below_drew1 HB.out)
          clear BK101
          clear BK102
          clear HB
          have BK101 := n0_
          have BK102 := n1_
          have HB := n2_
          clear n0_ n1_ n2_
          refine start_ (n := 4) (S := fun w' => w'.cell? ⟨gb102, 0, none⟩ = some (.int .u8 128) ∧ w'.cell? ⟨gb102, 1, none⟩ = some (.int .u8 191)) (ds := []) #[false, false, false, false] q13_ rfl rfl ⟨(blk_cell BK102.out 0).trans rfl, (blk_cell BK102.out 1).trans rfl⟩ (fun hHeld => ?_)
          generalize wc.drew = w30 at BK101 BK102 HB hHeld ⊢
          refine pure_ (i := 1) (N := some 2) (v := ?_) (a' := ?_) #[false, true, false, false] rfl rfl q13_ (fun _ _ _ h => h) (Or.inl ⟨q30_, ?_⟩) ?_ ?_
          rotate_left
          ·intro w'
           go_simp
           with_reducible rfl
          rotate_left
          ·simp only [Act.put, List.setIfInBounds_toArray, List.set_cons_zero, List.set_cons_succ, i64_w, i32_w]
           rfl
          refine take_ (i := 0) (N := some 34) (v := ?_) (a' := ?_) #[true, true, false, false] rfl rfl q13_ (fun _ _ _ h => h) (Or.inl ⟨q30_, ?_⟩) hHeld ?_ ?_
          rotate_left
          ·rintro w' ⟨s0, s1⟩
           go_simp
           with_reducible rfl
          rotate_left
          ·simp only [Act.put, List.setIfInBounds_toArray, List.set_cons_zero, List.set_cons_succ, i64_w, i32_w]
           rfl
          refine one_ (i := 2) (N := none) #[true, true, true, false] rfl rfl q13_ q14_ (fun K hK => ?_)
          have hs31 : w30.cell? ⟨gb101, 0, none⟩ = some (.int .u8 0) := (blk_cell BK101.out 0).trans rfl
          have hfs31 := blk_frozen BK101.out 0
          have hns31_1 := NB102_101.out
          have hms31_1 := NB101_102.out
          have hs32 : w30.cell? ⟨gb101, 1, none⟩ = some (.int .u8 0) := (blk_cell BK101.out 1).trans rfl
          have hfs32 := blk_frozen BK101.out 1
          have hns32_1 := NB102_101.out
          have hms32_1 := NB101_102.out
          refine skip_ (w1 := ?_) q30_ rfl ?_ ?_
          rotate_left
          ·go_simp
           rfl
          refine hK.out _ _ ⟨((cell_far (p := ⟨gb101, _, none⟩) NB102_101.out _).trans (((cell_far (p := ⟨gb101, _, none⟩) NB102_101.out _).trans (hHeld.1)))), ((cell_far (p := ⟨gb101, _, none⟩) NB102_101.out _).trans (((cell_far (p := ⟨gb101, _, none⟩) NB102_101.out _).trans (hHeld.2))))⟩ (fun hHeld => ?_)
          clear hK K
          refine pure_ (i := 3) (N := some 4) (v := ?_) (a' := ?_) #[true, true, true, true] rfl rfl q13_ (fun _ _ _ h => h) (Or.inl ⟨q30_, ?_⟩) ?_ ?_
          rotate_left
          ·intro w'
           go_simp
           with_reducible rfl
          rotate_left
          ·simp only [Act.put, List.setIfInBounds_toArray, List.set_cons_zero, List.set_cons_succ, i64_w, i32_w]
           rfl
          refine done_ q13_ ?_
          try go_wp2
          refine bodyPost_ret (results_list (rs := [.tmp 2, .cell 3 107, .tmp 4]) rfl q21_ (.tmp (.cell gb101 107 #[.int .u8 128, .int .u8 191] (0, 0) _ rfl q8_ Tryd.underlying107 rfl q13_ (.tmp .nil)))) rfl ?_
          exact ⟨q6_, q7_⟩
         ·replace c29 := Bool.eq_false_iff.mpr c29
          subst c29
          have H1 : (if a0 = 240 then (some (3, 144, 191, true)) else (if a0 ≥ 241 then (text_missing.j2 kj26 a0 (decide (a0 ≤ 243)) 128 191) else (text_missing.j2 kj26 a0 false 128 191))) = some (r1, r2, r3, r4) := by rw [if_neg (show ¬ (false = true) by decide)] at H; exact H
          clear H
          have H := H1
          clear H1
          by_cases c33 : a0 = 240
          ·rw [if_pos c33] at H
           have c33b0 : (a0 == 240) = true := beq_iff_eq.mpr c33
           have c33b1 : (a0 != 240) = false := bne_eq_false_iff_eq.mpr c33
           clear c33
           simp only [Option.some.injEq, Prod.mk.injEq] at H
           obtain ⟨rfl, rfl, rfl, rfl⟩ := H
           have hnb34 := NB101_102.out
           have hnc34 := NB102_101.out
           have hcz35_0 : wc.cell? ⟨gb101, 0, none⟩ = some (.int .u8 0) := (blk_cell BK101.out 0).trans rfl
           have hcz35_1 : wc.cell? ⟨gb101, 1, none⟩ = some (.int .u8 0) := (blk_cell BK101.out 1).trans rfl
           have hfz35_0 := blk_frozen BK101.out 0
           have hfz35_1 := blk_frozen BK101.out 1
           go_wp2
           refine bodyPost_ret (results_list (rs := [.tmp 2, .cell 3 107, .tmp 4]) rfl q21_ (.tmp (.cell gb101 107 #[.int .u8 144, .int .u8 191] (0, 0) _ rfl (by (with_reducible repeat (first | refine blk_drewN ?_ _ | refine blk_drew ?_ | refine blk_alloc ?_ _)); refine blk_put (cs := #[.int .u8 144, .int .u8 0]) ?_ 1 _ rfl; (with_reducible repeat (first | refine blk_drewN ?_ _ | refine blk_drew ?_ | refine blk_alloc ?_ _)); refine blk_put (cs := #[.int .u8 0, .int .u8 0]) ?_ 0 _ rfl; (with_reducible repeat (first | refine blk_drewN ?_ _ | refine blk_drew ?_ | refine blk_alloc ?_ _)); exact BK101.out) Tryd.underlying107 rfl q13_ (.tmp .nil)))) rfl ?_
           exact ⟨q6_, q7_⟩
          ·rw [if_neg c33] at H
           have c33b0 : (a0 == 240) = false := beq_eq_false_iff_ne.mpr c33
           have c33b1 : (a0 != 240) = true := bne_iff_ne.mpr c33
           have HC36 := Aside0.mk H
           clear H
           go_upto_region 14 with (fail)
           go_cut [39] (fun v39 wc => ∃ (kq : Nat) (x39_35 : Bool), v39 = .bool x39_35 ∧ Aside0 (text_missing.j2 kq a0 x39_35 128 191 = some (r1, r2, r3, r4)) ∧ Aside0 (kq ≤ kj26) ∧ Aside0 (wc.heap[gb101]? = some (.cells #[.int .u8 0, .int .u8 0] 107 (0, 0))) ∧ Aside0 (wc.heap[gb102]? = some (.cells #[.int .u8 128, .int .u8 191] 107 (0, 0))) ∧ Aside0 (Below w.heap.size w wc))
           case first =>
            have H := HC36.out
            clear HC36
            by_cases c37 : a0 ≥ 241
            ·rw [if_pos c37] at H
             have c37b0 : decide (241 ≤ a0) = true := decide_eq_true c37
             clear c37
             (first | rw [c37b0] | rw [c37be] | (simp only [i64_w, i32_w]; rw [c37b0]) | skip)
             have H' := Aside0.mk H
             clear H
             go_wp2
             go_meet
             case rel => exact ⟨_, (decide (a0 ≤ 243)), q3_, H', ⟨by have := HJ10.out; have := HJ26.out; first | omega | exact Nat.le_refl _⟩, ⟨q17_⟩, ⟨q28_⟩, ⟨q7_⟩⟩
            ·rw [if_neg c37] at H
             have c37b0 : decide (241 ≤ a0) = false := decide_eq_false c37
             clear c37
             (first | rw [c37b0] | rw [c37be] | (simp only [i64_w, i32_w]; rw [c37b0]) | skip)
             have H' := Aside0.mk H
             clear H
             go_wp2
             go_meet
             case rel => exact ⟨_, (false), q3_, H', ⟨by have := HJ10.out; have := HJ26.out; first | omega | exact Nat.le_refl _⟩, ⟨q17_⟩, ⟨q28_⟩, ⟨q7_⟩⟩
           case rest =>
            clear HC36
            try clear c1
            try clear c2
            try clear c2b0
            try clear p2
            try clear c3
            try clear c5
            try clear c14
            try clear c16
            try clear c16b0
            try clear c17
            try clear c21
            try clear c21b0
            try clear c21b1
            try clear c22
            try clear c24
            try clear c24b0
            try clear c24b1
            try clear c25
            try clear c28
            try clear c28b0
            try clear c29
            try clear c33
            try clear c33b0
            try clear c33b1
            try clear c34
            try clear c37
            try clear c37b0
            try clear hcz15_0 hcz15_1
            try clear hcz23_0 hcz23_1
            try clear hcz26_0 hcz26_1
            try clear hcz35_0 hcz35_1
            try clear hcz6_0 hcz6_1
            try clear hfz15_0 hfz15_1
            try clear hfz23_0 hfz23_1
            try clear hfz26_0 hfz26_1
            try clear hfz35_0 hfz35_1
            try clear hfz6_0 hfz6_1
            try clear p2
            obtain ⟨kq, x39_35, rfl, HA, HJ35, BK101, BK102, HB⟩ := hcut
            cases kq with
            | zero => exact absurd HA.out (by simp [text_missing.j2])
            | succ kj35 =>
             have H := HA.out
             clear HA
             simp only [text_missing.j2] at H
             by_cases c38 : x39_35 = true
             ·subst c38
              have H1 : (some (3, 128, 191, true)) = some (r1, r2, r3, r4) := by rw [if_pos rfl] at H; exact H
              clear H
              have H := H1
              clear H1
              simp only [Option.some.injEq, Prod.mk.injEq] at H
              obtain ⟨rfl, rfl, rfl, rfl⟩ := H
              try go_wp2
              have n0_ := Aside0.mk (blk_drew BK101.out)
              have n1_ := Aside0.mk (blk_drew BK102.out)
              have n2_ := Aside0.mk (below_drew1 HB.out)
              clear BK101
              clear BK102
              clear HB
              have BK101 := n0_
              have BK102 := n1_
              have HB := n2_
              clear n0_ n1_ n2_
              refine start_ (n := 4) (S := fun w' => w'.cell? ⟨gb102, 0, none⟩ = some (.int .u8 128) ∧ w'.cell? ⟨gb102, 1, none⟩ = some (.int .u8 191)) (ds := []) #[false, false, false, false] q13_ rfl rfl ⟨(blk_cell BK102.out 0).trans rfl, (blk_cell BK102.out 1).trans rfl⟩ (fun hHeld => ?_)
              generalize wc.drew = w39 at BK101 BK102 HB hHeld ⊢
              refine pure_ (i := 1) (N := some 2) (v := ?_) (a' := ?_) #[false, true, false, false] rfl rfl q13_ (fun _ _ _ h => h) (Or.inl ⟨q30_, ?_⟩) ?_ ?_
              rotate_left
              ·intro w'
               go_simp
               with_reducible rfl
              rotate_left
              ·simp only [Act.put, List.setIfInBounds_toArray, List.set_cons_zero, List.set_cons_succ, i64_w, i32_w]
               rfl
              refine take_ (i := 0) (N := some 46) (v := ?_) (a' := ?_) #[true, true, false, false] rfl rfl q13_ (fun _ _ _ h => h) (Or.inl ⟨q30_, ?_⟩) hHeld ?_ ?_
              rotate_left
              ·rintro w' ⟨s0, s1⟩
               go_simp
               with_reducible rfl
              rotate_left
              ·simp only [Act.put, List.setIfInBounds_toArray, List.set_cons_zero, List.set_cons_succ, i64_w, i32_w]
               rfl
              refine one_ (i := 2) (N := none) #[true, true, true, false] rfl rfl q13_ q14_ (fun K hK => ?_)
              have hs40 : w39.cell? ⟨gb101, 0, none⟩ = some (.int .u8 0) := (blk_cell BK101.out 0).trans rfl
              have hfs40 := blk_frozen BK101.out 0
              have hns40_1 := NB102_101.out
              have hms40_1 := NB101_102.out
              have hs41 : w39.cell? ⟨gb101, 1, none⟩ = some (.int .u8 0) := (blk_cell BK101.out 1).trans rfl
              have hfs41 := blk_frozen BK101.out 1
              have hns41_1 := NB102_101.out
              have hms41_1 := NB101_102.out
              refine skip_ (w1 := ?_) q30_ rfl ?_ ?_
              rotate_left
              ·go_simp
               rfl
              refine hK.out _ _ ⟨((cell_far (p := ⟨gb101, _, none⟩) NB102_101.out _).trans (((cell_far (p := ⟨gb101, _, none⟩) NB102_101.out _).trans (hHeld.1)))), ((cell_far (p := ⟨gb101, _, none⟩) NB102_101.out _).trans (((cell_far (p := ⟨gb101, _, none⟩) NB102_101.out _).trans (hHeld.2))))⟩ (fun hHeld => ?_)
              clear hK K
              refine pure_ (i := 3) (N := some 4) (v := ?_) (a' := ?_) #[true, true, true, true] rfl rfl q13_ (fun _ _ _ h => h) (Or.inl ⟨q30_, ?_⟩) ?_ ?_
              rotate_left
              ·intro w'
               go_simp
               with_reducible rfl
              rotate_left
              ·simp only [Act.put, List.setIfInBounds_toArray, List.set_cons_zero, List.set_cons_succ, i64_w, i32_w]
               rfl
              refine done_ q13_ ?_
              try go_wp2
              refine bodyPost_ret (results_list (rs := [.tmp 2, .cell 3 107, .tmp 4]) rfl q21_ (.tmp (.cell gb101 107 #[.int .u8 128, .int .u8 191] (0, 0) _ rfl q8_ Tryd.underlying107 rfl q13_ (.tmp .nil)))) rfl ?_
              exact ⟨q6_, q7_⟩
             ·replace c38 := Bool.eq_false_iff.mpr c38
              subst c38
              have H1 : (if a0 = 244 then (some (3, 128, 143, true)) else (some (0, 128, 191, false))) = some (r1, r2, r3, r4) := by rw [if_neg (show ¬ (false = true) by decide)] at H; exact H
              clear H
              have H := H1
              clear H1
              by_cases c42 : a0 = 244
              ·rw [if_pos c42] at H
               have c42b0 : (a0 == 244) = true := beq_iff_eq.mpr c42
               have c42b1 : (a0 != 244) = false := bne_eq_false_iff_eq.mpr c42
               clear c42
               simp only [Option.some.injEq, Prod.mk.injEq] at H
               obtain ⟨rfl, rfl, rfl, rfl⟩ := H
               have hnb43 := NB101_102.out
               have hnc43 := NB102_101.out
               have hcz44_0 : wc.cell? ⟨gb101, 0, none⟩ = some (.int .u8 0) := (blk_cell BK101.out 0).trans rfl
               have hcz44_1 : wc.cell? ⟨gb101, 1, none⟩ = some (.int .u8 0) := (blk_cell BK101.out 1).trans rfl
               have hfz44_0 := blk_frozen BK101.out 0
               have hfz44_1 := blk_frozen BK101.out 1
               go_wp2
               refine bodyPost_ret (results_list (rs := [.tmp 2, .cell 3 107, .tmp 4]) rfl q21_ (.tmp (.cell gb101 107 #[.int .u8 128, .int .u8 143] (0, 0) _ rfl q8_ Tryd.underlying107 rfl q13_ (.tmp .nil)))) rfl ?_
               exact ⟨q6_, q7_⟩
              ·rw [if_neg c42] at H
               have c42b0 : (a0 == 244) = false := beq_eq_false_iff_ne.mpr c42
               have c42b1 : (a0 != 244) = true := bne_iff_ne.mpr c42
               simp only [Option.some.injEq, Prod.mk.injEq] at H
               obtain ⟨rfl, rfl, rfl, rfl⟩ := H
               try go_wp2
               have n0_ := Aside0.mk (blk_drew BK101.out)
               have n1_ := Aside0.mk (blk_drew BK102.out)
               have n2_ := Aside0.mk (below_drew1 HB.out)
               clear BK101
               clear BK102
               clear HB
               have BK101 := n0_
               have BK102 := n1_
               have HB := n2_
               clear n0_ n1_ n2_
               refine start_ (n := 4) (S := fun w' => w'.cell? ⟨gb102, 0, none⟩ = some (.int .u8 128) ∧ w'.cell? ⟨gb102, 1, none⟩ = some (.int .u8 191)) (ds := []) #[false, false, false, false] q13_ rfl rfl ⟨(blk_cell BK102.out 0).trans rfl, (blk_cell BK102.out 1).trans rfl⟩ (fun hHeld => ?_)
               generalize wc.drew = w45 at BK101 BK102 HB hHeld ⊢
               refine pure_ (i := 1) (N := some 2) (v := ?_) (a' := ?_) #[false, true, false, false] rfl rfl q13_ (fun _ _ _ h => h) (Or.inl ⟨q30_, ?_⟩) ?_ ?_
               rotate_left
               ·intro w'
                go_simp
                with_reducible rfl
               rotate_left
               ·simp only [Act.put, List.setIfInBounds_toArray, List.set_cons_zero, List.set_cons_succ, i64_w, i32_w]
                rfl
               refine take_ (i := 0) (N := some 51) (v := ?_) (a' := ?_) #[true, true, false, false] rfl rfl q13_ (fun _ _ _ h => h) (Or.inl ⟨q30_, ?_⟩) hHeld ?_ ?_
               rotate_left
               ·rintro w' ⟨s0, s1⟩
                go_simp
                with_reducible rfl
               rotate_left
               ·simp only [Act.put, List.setIfInBounds_toArray, List.set_cons_zero, List.set_cons_succ, i64_w, i32_w]
                rfl
               refine one_ (i := 2) (N := none) #[true, true, true, false] rfl rfl q13_ q14_ (fun K hK => ?_)
               have hs46 : w45.cell? ⟨gb101, 0, none⟩ = some (.int .u8 0) := (blk_cell BK101.out 0).trans rfl
               have hfs46 := blk_frozen BK101.out 0
               have hns46_1 := NB102_101.out
               have hms46_1 := NB101_102.out
               have hs47 : w45.cell? ⟨gb101, 1, none⟩ = some (.int .u8 0) := (blk_cell BK101.out 1).trans rfl
               have hfs47 := blk_frozen BK101.out 1
               have hns47_1 := NB102_101.out
               have hms47_1 := NB101_102.out
               refine skip_ (w1 := ?_) q30_ rfl ?_ ?_
               rotate_left
               ·go_simp
                rfl
               refine hK.out _ _ ⟨((cell_far (p := ⟨gb101, _, none⟩) NB102_101.out _).trans (((cell_far (p := ⟨gb101, _, none⟩) NB102_101.out _).trans (hHeld.1)))), ((cell_far (p := ⟨gb101, _, none⟩) NB102_101.out _).trans (((cell_far (p := ⟨gb101, _, none⟩) NB102_101.out _).trans (hHeld.2))))⟩ (fun hHeld => ?_)
               clear hK K
               refine pure_ (i := 3) (N := some 4) (v := ?_) (a' := ?_) #[true, true, true, true] rfl rfl q13_ (fun _ _ _ h => h) (Or.inl ⟨q30_, ?_⟩) ?_ ?_
               rotate_left
               ·intro w'
                go_simp
                with_reducible rfl
               rotate_left
               ·simp only [Act.put, List.setIfInBounds_toArray, List.set_cons_zero, List.set_cons_succ, i64_w, i32_w]
                rfl
               refine done_ q13_ ?_
               try go_wp2
               refine bodyPost_ret (results_list (rs := [.tmp 2, .cell 3 107, .tmp 4]) rfl q21_ (.tmp (.cell gb101 107 #[.int .u8 128, .int .u8 191] (0, 0) _ rfl q8_ Tryd.underlying107 rfl q13_ (.tmp .nil)))) rfl ?_
               exact ⟨q6_, q7_⟩
def text_goesOn.f (a0 : Int) : Option (Bool) := if a0 ≥ 128 then (some (decide (a0 ≤ 191))) else (some false)
set_option maxHeartbeats 8000000 in
set_option maxRecDepth 100000 in
theorem text_goesOn.calls (a0 : Int) (r : Bool) (w : World) (h : text_goesOn.f a0 = some r) :
  Calls Tryd.prog 59 #[.int .u8 a0] w fun e w' => e = .returned (.bool r) ∧ Drawn0 w w' := by
 have H : (if a0 ≥ 128 then (some (decide (a0 ≤ 191))) else (some false)) = some r := h
 clear h
 by_cases c2 : a0 ≥ 128
 ·rw [if_pos c2] at H
  have c2b0 : decide (128 ≤ a0) = true := decide_eq_true c2
  clear c2
  obtain rfl := Option.some.inj H
  go_enter Tryd.func59, Tryd.ntmps59
  go_wp2
  go_ret
  exact ⟨q3_, q20_⟩
 ·rw [if_neg c2] at H
  have c2b0 : decide (128 ≤ a0) = false := decide_eq_false c2
  clear c2
  obtain rfl := Option.some.inj H
  go_enter Tryd.func59, Tryd.ntmps59
  go_wp2
  go_ret
  exact ⟨q3_, q20_⟩
end Go.Proofs.YtogjljpncdmlkaaDoor.GX
end
