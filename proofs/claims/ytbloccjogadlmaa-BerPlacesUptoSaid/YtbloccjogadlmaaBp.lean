/- The law BerPlaces, walked. -/
import Derived.Test.YtbloccjogadlmaaKph
import Derived.Test.YtbloccjogadlmaaPlc
namespace Go.Proofs.Ytbloccjogadlmaa.W
open Go.RowKit Go.Shelf Go.Proofs.YtbloccjogadlmaaW.PrintWords Go.Proofs.YtbloccjogadlmaaW.PrintLast
set_option linter.unusedVariables false
set_option linter.unusedSimpArgs false
attribute [local go_sem] Oper.semAt_some

def BpI (w W0 : World) (bN bX bR : Nat) (pre : List (Int × Hd)) (W : World) : Prop :=
  ((Boxed W bN 3 (.int .i64 pre.length) ∧ Boxed W bX 3 (.int .i64 (nx pre))) ∧ Boxed W bR 4 (.bool false)) ∧ KpC (fun k => k = bN ∨ k = bX ∨ k = bR) W0 W ∧ Below w.heap.size w W
theorem bpI_own {w W0 : World} {bN bX bR B : Nat} (hB : w.heap.size ≤ B) : OwnFrom B (BpI w W0 bN bX bR) :=
  OwnFrom.and (OwnFrom.and (OwnFrom.and (Own.from (boxed_own (β := List (Int × Hd)) bN 3 (fun pre => .int .i64 pre.length)) _) (Own.from (boxed_own (β := List (Int × Hd)) bX 3 (fun pre => .int .i64 (nx pre))) _)) (Own.from (boxed_own _ _ _) _)) (OwnFrom.and kpc_own (ownFrom_below (Nat.le_refl _) hB))

theorem bpI_step {w W0 W : World} {bN bX bR : Nat} {pre : List (Int × Hd)} {x : Int × Hd} {v : Int} {u : Value} (o : Obj) (hN : Boxed W bN 3 (.int .i64 pre.length)) (hX : Boxed W bX 3 u) (hR : Boxed W bR 4 (.bool false)) (hK : KpC (fun k => k = bN ∨ k = bX ∨ k = bR) W0 W) (hb : Below w.heap.size w W)
    (hv : v = nxt x) (h1 : bN ≠ bX) (h2 : bR ≠ bX) (h3 : bR ≠ bN) (hn : w.heap.size ≤ bN) (hx : w.heap.size ≤ bX) :
    BpI w W0 bN bX bR (pre ++ [x]) (((W.setCell ⟨bX, 0, none⟩ (.int .i64 v)).setCell ⟨bN, 0, none⟩ (.int .i64 ((pre.length : Int) + 1))).alloc o) := by
  have hb2 : Below w.heap.size w ((W.setCell ⟨bX, 0, none⟩ (.int .i64 v)).setCell ⟨bN, 0, none⟩ (.int .i64 ((pre.length : Int) + 1))) := (hb.setCell (p := ⟨bX, 0, none⟩) hx _).setCell (p := ⟨bN, 0, none⟩) hn _
  refine ⟨⟨⟨Boxed.alloc ?_ _, Boxed.alloc ?_ _⟩, Boxed.alloc (Boxed.other (Boxed.other hR h2 _) h3 _) _⟩, ((hK.set _ (.inr (.inl rfl))).set _ (.inl rfl)).alloc _, hb2.alloc hb2.size _⟩
  · have e : ((pre ++ [x]).length : Int) = (pre.length : Int) + 1 := by simp
    rw [e]
    exact Boxed.set _ (Boxed.other hN h1 _)
  · rw [nx_snoc, ← hv]
    exact Boxed.other (Boxed.set _ hX) (Ne.symm h1) _
theorem kc2 {S : Nat → Prop} {W : World} {b1 b2 : Nat} (u v : Value) (o : Obj) (h1 : S b1) (h2 : S b2) : KpC S W (((W.setCell ⟨b1, 0, none⟩ u).setCell ⟨b2, 0, none⟩ v).alloc o) := (((KpC.refl S W).set u h1).set v h2).alloc o
theorem kc3 {S : Nat → Prop} {W : World} {b1 b2 b3 : Nat} (t u v : Value) (o : Obj) (h0 : S b3) (h1 : S b1) (h2 : S b2) : KpC S W ((((W.setCell ⟨b3, 0, none⟩ t).setCell ⟨b1, 0, none⟩ u).setCell ⟨b2, 0, none⟩ v).alloc o) := ((((KpC.refl S W).set t h0).set u h1).set v h2).alloc o
theorem kfA (B : Nat) (W : World) (b : Nat) (u : Value) (o : Obj) : KeepsFrom B W ((W.setCell ⟨b, 0, none⟩ u).alloc o) := ((KeepsOthers.setCell W _ _).trans (KeepsOthers.alloc _ _)).from _
theorem kf2 (B : Nat) (W : World) (b c : Nat) (u v : Value) (o : Obj) : KeepsFrom B W (((W.setCell ⟨b, 0, none⟩ u).setCell ⟨c, 0, none⟩ v).alloc o) := (((KeepsOthers.setCell W _ _).trans (KeepsOthers.setCell _ _ _)).trans (KeepsOthers.alloc _ _)).from _
theorem kf3 (B : Nat) (W : World) (b c d : Nat) (t u v : Value) (o : Obj) : KeepsFrom B W ((((W.setCell ⟨b, 0, none⟩ t).setCell ⟨c, 0, none⟩ u).setCell ⟨d, 0, none⟩ v).alloc o) := ((((KeepsOthers.setCell W _ _).trans (KeepsOthers.setCell _ _ _)).trans (KeepsOthers.setCell _ _ _)).trans (KeepsOthers.alloc _ _)).from _
theorem phi_le4 (forms : List Int) (i : Nat) (n : Int) : phiF forms i n ≤ 4 := by
  unfold phiF
  split
  · omega
  · unfold wideK
    repeat' split
    all_goals omega

set_option maxRecDepth 100000 in
set_option maxHeartbeats 4000000 in
theorem BerPlaces_in (n : Nat) (hn : 20 ≤ n) (A : Option Addr) (c : Nat) (xs : List NodeT) (F : Option Addr) (cf : Nat) (forms : List Int) (w : World) (hC : Kd.C kNode w A xs.length xs) (hc : xs.length ≤ c) (hF : Kd.C (Kd.int .i64) w F forms.length forms) (hcf : forms.length ≤ cf)
    (hlen : xs.length ≤ 1048576) (hwt : wt xs 0 xs.length ≤ 1048576) :
    CallsIn Fence.wide n Try.prog 4 #[.slice A xs.length c, .slice F forms.length cf] w fun en w' => en = .returned (.bool true) ∧ Below w.heap.size w w' := by
  have hfe : ∀ (fn : Fn) (x y : Array Value) (W : World), (binOp .eql 25 (.func fn x y) .nilFunc).run Try.prog W = .ok (.bool false) W := fun _ _ _ _ => rfl
  refine callsIn_of_wp_marks Try.func4 rfl trivial ?_ rfl
  simp only [Try.ntmps4, List.size_toArray, List.length_cons, List.length_nil, Nat.reduceAdd, Nat.reduceSub, Array.replicate_succ, Array.replicate_zero, List.push_toArray, List.append_toArray, List.nil_append, List.cons_append]
  have hsz : ∀ i, (nd xs i).2.2.2.2.size ≤ 140737488351232 := fun i => by have := nd_wt xs i; omega
  have HSZ := Lib.hid hsz
  have HWT := Lib.hid hwt
  clear hsz hwt
  gi_wp2_with fail
  refine ⟨trivial, fun _ => by omega, ?_⟩
  refine (callsIn_wide.2 (sound_any A c xs _ (Kd.C_alloc (Kd.C_alloc hC _) _) hc (by omega))).mono ?_
  rintro en w1 ⟨rfl, hb1⟩
  have kD1 := (boxAt ((At.new w 33 #[.slice A xs.length c]).alloc (.cells #[.bool false] 4))).kept (row := none) (grown_of_below hb1) (by simp)
  have kR1 := (boxAt (At.new (w.alloc (.cells #[.slice A xs.length c] 33)) 4 #[.bool false])).kept (row := none) (grown_of_below hb1) (by simp)
  have hB1 : Below w.heap.size w w1 := (((Below.refl _ w).alloc (Nat.le_refl _) _).alloc (by simp) _).trans (hb1.mono (by simp; omega))
  clear hb1
  rw [World.size_alloc] at kR1
  have cD1 := kD1.cell
  have cR1 := kR1.cell
  have fR1 := kR1.frozen
  cases hsd : soundB xs with
  | false =>
    gi_wp2_with fail
    refine ⟨trivial, fun _ => by omega, ?_⟩
    refine (callsIn_wide.2 (small_any A c xs _ (Kd.C_below hC hB1) hc (by omega) HSZ.out)).mono ?_
    rintro en w2 ⟨rfl, hb2⟩
    have kR2 := kR1.kept (row := none) (grown_of_below hb2) (by simp)
    have cR2 := kR2.cell
    have fR2 := kR2.frozen
    gi_wp2_with fail
    refine ⟨.bool true, ?_, rfl, (hB1.trans (hb2.mono hB1.size)).setCell (p := ⟨w.heap.size + 1, 0, none⟩) (by simp) _⟩
    have hc1 := (kR2.set (.bool true)).cell
    simp [results, Try.f4, go_sem, hc1]
  | true =>
    gi_wp2_with fail
    refine ⟨trivial, fun _ => by omega, ?_⟩
    refine (callsIn_wide.2 (small_any A c xs _ (Kd.C_below hC hB1) hc (by omega) HSZ.out)).mono ?_
    rintro en w2 ⟨rfl, hb2⟩
    obtain ⟨hS, h0⟩ := sound_snd hsd
    have kR2 := kR1.kept (row := none) (grown_of_below hb2) (by simp)
    have kD2 := kD1.kept (row := none) (grown_of_below hb2) (by simp)
    have cR2 := kR2.cell
    have fR2 := kR2.frozen
    have cD2 := kD2.cell
    have hB2 : Below w.heap.size w w2 := hB1.trans (hb2.mono hB1.size)
    have hdw : decide (wt xs 0 xs.length ≤ 67108864) = true := decide_eq_true (by have := HWT.out; omega)
    clear kR1 kD1 cD1 cR1 fR1 hb2 hB1
    gi_wp2_with fail
    refine ⟨trivial, fun _ => by omega, ?_⟩
    refine (callsIn_wide.2 (spelt_any A c xs F cf forms _ (Kd.C_below hC hB2) hc (Kd.C_below hF hB2) hcf hS h0 (by omega) (by have := HWT.out; omega))).mono ?_
    rintro en w3 ⟨rfl, hb3⟩
    obtain ⟨t1, t2, t3, t4, t5⟩ := spelt_tree forms xs hS h0 (by have := HWT.out; omega) (phi_le4 forms)
    obtain ⟨b, hbb⟩ : ∃ b, catS (phiF forms) xs xs.length = b := ⟨_, rfl⟩
    obtain ⟨sh, hsh⟩ : ∃ sh, shB forms xs xs.length = sh := ⟨_, rfl⟩
    rw [hbb] at t3 ⊢
    rw [hsh]
    have hbl : (b.size : Int) = (encT (treeOf (phiF forms) xs)).length := by rw [← t3, bytesOf_length]
    have HTR : Hid (treeS b = (xs, 0, 0)) := by
      have := tree_enc t1 t2 (s := b) (has_of t3) hbl
      unfold Hid
      rw [this, t4]
    have hbs : b.size ≤ 1048576 := by have := HWT.out; omega
    have HBS := Lib.hid hbs
    have hB3 : Below w.heap.size w w3 := hB2.trans (hb3.mono hB2.size)
    have kR3 := kR2.kept (row := none) (grown_of_below hb3) (by simp)
    have kD3 := kD2.kept (row := none) (grown_of_below hb3) (by simp)
    have cD3 := kD3.cell
    have lD3 := kD3.lt
    have HS := Lib.hid hS
    clear hbb hsh t1 t2 t3 t4 t5 hbl kR2 kD2 cR2 fR2 cD2 hB2 hb3 hS hdw hbs
    gi_wp2_with fail
    refine ⟨trivial, fun _ => by omega, ?_⟩
    refine (callsIn_wide.2 (Elems_any b _)).mono ?_
    rintro en w4 ⟨rfl, rfl⟩
    gi_wp2_with fail
    obtain ⟨W0, hW0⟩ : ∃ W0, ((w3.alloc (.cells #[.int .i64 0] 3)).alloc (.cells #[.int .i64 0] 3)).alloc (.cells #[.string b] 9) = W0 := ⟨_, rfl⟩
    have hB30 : Below w3.heap.size w3 W0 := by rw [← hW0]; exact (((Below.refl _ w3).alloc (Nat.le_refl _) _).alloc (by simp) _).alloc (by simp; omega) _
    have hz0 : W0.heap.size = w3.heap.size + 3 := by rw [← hW0]; simp
    have kD0 : Boxed W0 w.heap.size 33 (.slice A xs.length c) := kD3.kept (row := none) (grown_of_below hB30) (by simp)
    have kR0 : Boxed W0 (w.heap.size + 1) 4 (.bool false) := kR3.kept (row := none) (grown_of_below hB30) (by simp)
    have kN0 : Boxed W0 w3.heap.size 3 (.int .i64 0) := by rw [← hW0]; exact ((Boxed.new w3 _ _).alloc _).alloc _
    have kX0 : Boxed W0 (w3.heap.size + 1) 3 (.int .i64 0) := by rw [← hW0]; have := (Boxed.new (w3.alloc (.cells #[.int .i64 0] 3)) 3 (.int .i64 0)).alloc (.cells #[.string b] 9); simpa using this
    have kT0 : Boxed W0 (w3.heap.size + 1 + 1) 9 (.string b) := by rw [← hW0]; have := Boxed.new ((w3.alloc (.cells #[.int .i64 0] 3)).alloc (.cells #[.int .i64 0] 3)) 9 (.string b); simpa using this
    have hBw0 : Below w.heap.size w W0 := hB3.trans (hB30.mono hB3.size)
    have hz3 : w.heap.size + 2 ≤ w3.heap.size := by have := kR3.lt; omega
    rw [hW0]
    clear hW0 kR3 kD3 cD3 lD3 hB30 hB3
    obtain ⟨bD, hbD⟩ : ∃ bD, bD = w.heap.size := ⟨_, rfl⟩
    obtain ⟨bR, hbR⟩ : ∃ bR, bR = w.heap.size + 1 := ⟨_, rfl⟩
    obtain ⟨bN, hbN⟩ : ∃ bN, bN = w3.heap.size := ⟨_, rfl⟩
    obtain ⟨bX, hbX⟩ : ∃ bX, bX = w3.heap.size + 1 := ⟨_, rfl⟩
    obtain ⟨bT, hbT⟩ : ∃ bT, bT = w3.heap.size + 1 + 1 := ⟨_, rfl⟩
    rw [← hbR] at kR0
    rw [← hbD] at kD0
    rw [← hbT] at kT0
    rw [← hbX] at kX0
    rw [← hbN] at kN0
    rw [← hbT, ← hbX, ← hbR, ← hbN, ← hbD]
    have HBB : Hid (bD = w.heap.size ∧ bR = w.heap.size + 1 ∧ bN = w3.heap.size ∧ bX = w3.heap.size + 1 ∧ bT = w3.heap.size + 2) := ⟨hbD, hbR, hbN, hbX, hbT⟩
    clear hbD hbR hbN hbX hbT
    have hSlt : ∀ k, (k = bN ∨ k = bX ∨ k = bR) → k < W0.heap.size := by have := HBB.out; omega
    obtain ⟨hPl, hPx, hPP⟩ := places_law (s := b) (by have := HBS.out; omega) HTR.out
    have HPL := Lib.hid hPl
    have HPX := Lib.hid hPx
    have HPP := Lib.hid hPP
    have HZ := Lib.hid hz3
    clear hPl hPx hPP hz3
    refine wpIn_rangeFunc_ownH rfl (by omega) (gf := 21) (lb := #[.pointer (some ⟨bT, 0, none⟩)]) (by rfl) trivial (enters_of Try.func21 (by kernel_rfl) rfl)
      (ElemsC_stops (n - 1) (by omega) (fun k => k = bN ∨ k = bX ∨ k = bR) bT b W0 (by have := HBS.out; omega) hSlt kT0) (fun h k => kpC_t h k) kpC_b (Below.refl _ _) (fun _ => rfl)
      (BpI w W0 bN bX bR) (fun c pre W => c = .ret ∧ ¬ pre <+: places b) (bpI_own (by have := HBB.out; have := HZ.out; omega)) (fun c => ownFrom_pure _ _)
      ⟨⟨⟨kN0, kX0⟩, kR0⟩, KpC.refl _ _, hBw0⟩
      (fun x a' W => ∃ Bx, W0.heap.size ≤ Bx ∧ At W Bx 29 #[.int .i64 x.2.cls, .bool x.2.made, .int .i64 x.2.tag, .int .i64 x.2.len, .int .i64 x.2.size] ∧ a' = { tmps := (.slice A xs.length c :: .slice F forms.length cf :: .pointer (some ⟨bD, 0, none⟩) :: undef :: .pointer (some ⟨bR, 0, none⟩) :: .bool true :: .bool true :: .string b :: .bool sh :: .pointer (some ⟨bN, 0, none⟩) :: .pointer (some ⟨bX, 0, none⟩) :: .func (.func 21) #[] #[.pointer (some ⟨bT, 0, none⟩)] :: .int .i64 x.1 :: .pointer (some ⟨Bx, 0, none⟩) :: undef :: .slice A xs.length c :: .bool true :: .slice A xs.length c :: .bool true :: .bool true :: .bool false :: .bool false :: .bool true :: .bool false :: .bool false :: .tuple #[.string b, .bool sh] :: .slice A xs.length c :: .slice F forms.length cf :: .tuple #[.string b, .bool sh] :: .string b :: .bool sh :: .string b :: .func (.func 21) #[] #[.pointer (some ⟨bT, 0, none⟩)] :: .func (.func 21) #[] #[.pointer (some ⟨bT, 0, none⟩)] :: .bool false :: .func (.func 21) #[] #[.pointer (some ⟨bT, 0, none⟩)] :: .int .i64 x.1 :: hdV x.2 :: undef :: undef :: undef :: undef :: undef :: undef :: undef :: undef :: undef :: undef :: undef :: undef :: undef :: undef :: undef :: undef :: undef :: undef :: undef :: undef :: undef :: undef :: undef :: undef :: undef :: undef :: undef :: undef :: undef :: undef :: undef :: undef :: undef :: undef :: undef :: undef :: undef :: undef :: undef :: undef :: undef :: undef :: undef :: undef :: undef :: undef :: undef :: undef :: undef :: undef :: undef :: undef :: undef :: undef :: undef :: undef :: undef :: undef :: undef :: undef :: undef :: undef :: undef :: undef :: undef :: undef :: undef :: undef :: undef :: undef :: undef :: undef :: undef :: [] : List Value).toArray, defers := [] })
      (fun x a' _ X Y row hs hg hr => by obtain ⟨Bx, e1, e2, e3⟩ := hs; exact ⟨Bx, e1, at_kept e2 hg hr, e3⟩)
      ?assign ?body ?done ?stop
    case assign =>
      rintro l pre x W K ⟨⟨⟨hN, hX⟩, hRs⟩, hK0, hB0⟩ hK
      dsimp only [yv, hdV]
      gi_wp2_with fail
      exact hK _ _ ((KeepsOthers.alloc _ _).from _) ((KpC.refl _ W).alloc _) ⟨⟨⟨hN.alloc _, hX.alloc _⟩, hRs.alloc _⟩, hK0.alloc _, hB0.alloc hB0.size _⟩ ⟨W.heap.size, hK0.1, At.new W _ _, rfl⟩
    case body =>
      rintro l pre x a' W hl _ hI ⟨Bx, hBx, hH, rfl⟩ hlt
      obtain ⟨⟨⟨hN, hX⟩, hRs⟩, hK0, hB0⟩ := id hI
      have kD : Boxed W bD 33 (.slice A xs.length c) := boxAt (hK0.at kD0 (by have := HBB.out; have := HZ.out; omega))
      have hCW : Kd.C kNode W A xs.length xs := Kd.C_below hC hB0
      have hpp := HPP.out pre x
      have HQ := Lib.hid hpp
      have HI := Lib.hid hI
      have cD := kD.cell
      have cN := hN.cell
      have fN := hN.frozen
      have cX := hX.cell
      have fX := hX.frozen
      have cR := hRs.cell
      have fR := hRs.frozen
      have h0 := (hH.cell 0).trans rfl
      have h1 := (hH.cell 1).trans rfl
      have h2 := (hH.cell 2).trans rfl
      have h3 := (hH.cell 3).trans rfl
      have h4 := (hH.cell 4).trans rfl
      have lN := hN.lt
      have lX := hX.lt
      have lR := hRs.lt
      have lH := hH.lt
      have hNX : bN ≠ bX := by have := HBB.out; omega
      have hXN : bX ≠ bN := by have := HBB.out; omega
      have n2 : bR ≠ bX := by have := HBB.out; have := HZ.out; omega
      have n3 : bR ≠ bN := by have := HBB.out; have := HZ.out; omega
      have n4 : w.heap.size ≤ bN := by have := HBB.out; have := HZ.out; omega
      have n5 : w.heap.size ≤ bX := by have := HBB.out; have := HZ.out; omega
      clear hpp hI
      by_cases c1 : pre.length < xs.length
      · obtain ⟨ad, rfl, y0, y1, y2, y3, y4⟩ := node_at hCW pre.length c1
        have d1 : decide (xs.length ≤ pre.length) = false := by simp; exact c1
        by_cases c2 : x.1 = nx pre
        · have e2 : (x.1 != nx pre) = false := by simp [c2]
          obtain ⟨y, hy⟩ : ∃ y, nd xs pre.length = y := ⟨_, rfl⟩
          rw [hy] at y0 y1 y2 y3 y4
          have HY := Lib.hid hy
          obtain ⟨yd, yc, ym, yt, yb⟩ := y
          simp only at y0 y1 y2 y3 y4
          clear hy hCW
          have HC2 := Lib.hid c2
          cases hm : x.2.made <;> rw [hm] at h1 <;> cases ym <;> gi_wp2_with fail
          all_goals first | (refine ⟨by with_reducible first | exact kfA _ _ _ _ _ | exact kf2 _ _ _ _ _ _ _ | exact kf3 _ _ _ _ _ _ _ _ _, ?_, ?_⟩) | (exfalso; rename_i b0 hh h3; injection hh with hh; cases hh)
          all_goals first
            | (with_reducible rfl)
            | (with_reducible exact kc2 _ _ _ (.inr (.inl rfl)) (.inl rfl))
            | (with_reducible exact kc3 _ _ _ _ (.inr (.inl rfl)) (.inr (.inl rfl)) (.inl rfl))
            | (intro hp
               obtain ⟨q1, q2, q3, q4, q5, q6, q7⟩ := HQ.out hp
               rw [HY.out] at q3 q4 q5 q6
               rw [hm] at q4 q6
               simp only at q1 q2 q3 q4 q5 q6 q7
               first | (cases q4; done) | exact absurd q3 (by assumption) | exact absurd q5 (by assumption) | exact absurd (q6 trivial) (by assumption) | exact absurd (q6 rfl) (by assumption) | omega)
            | (with_reducible refine bpI_step _ hN hX hRs hK0 hB0 ?_ hNX n2 n3 n4 n5)
            | (with_reducible refine bpI_step _ (Boxed.other hN hNX _) (Boxed.set _ hX) (Boxed.other hRs n2 _) (hK0.set _ (.inr (.inl rfl))) (hB0.setCell (p := ⟨bX, 0, none⟩) n5 _) ?_ hNX n2 n3 n4 n5)
            | (intro hp; obtain ⟨q1, q2, q3, q4, q5, q6, q7⟩ := HQ.out hp; rw [HY.out] at q3 q4 q5 q6; rw [hm] at q4 q6; simp only at q1 q2 q3 q4 q5 q6 q7; trace_state; sorry)
          all_goals (unfold nxt; simp only [hm, HC2.out, if_true, Bool.false_eq_true, if_false]; first | done | rfl | (simp [*]; done))
        · have e2 : (x.1 != nx pre) = true := by simp [c2]
          gi_wp2_with fail
          exact ⟨(KeepsOthers.setCell W _ _).from _, rfl, fun hp => c2 (HQ.out hp).2.1⟩
      · have d1 : decide (xs.length ≤ pre.length) = true := by simp; omega
        gi_wp2_with fail
        exact ⟨(KeepsOthers.setCell W _ _).from _, rfl, fun hp => c1 (HQ.out hp).1⟩
    case done =>
      rintro D ys W hD rfl ⟨⟨⟨hN, hX⟩, hRs⟩, hK0, hB0⟩ hKD
      rw [HPL.out] at hN
      rw [HPX.out] at hX
      have kD : Boxed W bD 33 (.slice A xs.length c) := boxAt (hK0.at kD0 (by have := HBB.out; have := HZ.out; omega))
      have cD := kD.cell
      have cN := hN.cell
      have cX := hX.cell
      have cR := hRs.cell
      have fR := hRs.frozen
      gi_wp2_with fail
      have hK' := (KeepsOthers.setCell W ⟨bR, 0, none⟩ (.bool true)).same D _ hKD rfl
      refine ⟨by simp, .inl ⟨_, _, rfl, run_takeDeferred hK', ?_⟩⟩
      have hc1 := cell_kept (hRs.set (.bool true)).cell (grownBy_putObj' _ D (.deferred none)) (fun r e => by cases e; exact ⟨_, hK', rfl⟩)
      refine ⟨.bool true, ?_, rfl, (hB0.setCell (p := ⟨bR, 0, none⟩) (by have := HBB.out; simp; omega) _).trans (belowK_b (w := w) (Nat.le_refl _) _ D _ _ (by have := hBw0.size; omega) hK' rfl rfl)⟩
      simp [results, Try.f4, go_sem, hc1]
    case stop =>
      rintro D cc pre W hD hpre ⟨rfl, hX⟩ hKD
      exact absurd hpre hX
end Go.Proofs.Ytbloccjogadlmaa.W
