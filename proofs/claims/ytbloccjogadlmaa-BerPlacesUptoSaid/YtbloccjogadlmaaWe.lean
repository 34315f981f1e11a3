/- Walk of (*writer).element: the bytes of the element at the writer's place; the place goes on behind it. -/
import Derived.Test.YtbloccjogadlmaaWk
import Derived.Test.YtbloccjogadlmaaWLast
namespace Go.Proofs.Ytbloccjogadlmaa.W
open Go.RowKit Go.Proofs.YtbloccjogadlmaaW.PrintWords Go.Proofs.YtbloccjogadlmaaW.PrintLast
set_option linter.unusedVariables false
set_option linter.unusedSimpArgs false

theorem node_at {w : World} {A : Option Addr} {n : Nat} {xs : List NodeT} (h : Kd.C kNode w A n xs) (i : Nat) (hi : i < n) : ∃ ad, A = some ad ∧ w.cell? (ad.add (i * 5)) = some (.int .i64 (nd xs i).1) ∧
    w.cell? ⟨(ad.add (i * 5)).block, (ad.add (i * 5)).off + 1, none⟩ = some (.int .i64 (nd xs i).2.1) ∧ w.cell? ⟨(ad.add (i * 5)).block, (ad.add (i * 5)).off + 2, none⟩ = some (.bool (nd xs i).2.2.1) ∧
    w.cell? ⟨(ad.add (i * 5)).block, (ad.add (i * 5)).off + 3, none⟩ = some (.int .i64 (nd xs i).2.2.2.1) ∧ w.cell? ⟨(ad.add (i * 5)).block, (ad.add (i * 5)).off + 4, none⟩ = some (.string (nd xs i).2.2.2.2) := by
  obtain ⟨ad, c, e, _, hK, hc0⟩ := Kd.C_get h zN (i : Int) (by omega) (by omega)
  have hc : ∀ j u, c[j]? = some u → w.cell? (ad.add (i * 5 + j)) = some u := hc0
  obtain ⟨_, _, rfl, rfl, ⟨_, _, rfl, rfl, ⟨_, _, rfl, rfl, ⟨_, _, rfl, rfl, rfl⟩⟩⟩⟩ := hK
  refine ⟨ad, e, hc 0 _ rfl, by rw [← add_field _ _ 1 (by omega)]; exact hc 1 _ rfl, by rw [← add_field _ _ 2 (by omega)]; exact hc 2 _ rfl, by rw [← add_field _ _ 3 (by omega)]; exact hc 3 _ rfl, by rw [← add_field _ _ 4 (by omega)]; exact hc 4 _ rfl⟩

theorem infoU8 : (Try.prog.info? 5).map (fun i => (i.zero, i.size, i.bytes)) = some (some (.int .u8 0), 1, 1) := by kernel_rfl
theorem str_bytes (b : ByteArray) : strOfNums (bytesOf b) = b := by
  apply ByteArray.ext
  show ((bytesOf b).map fun n => UInt8.ofNat n.toNat).toArray = b.data
  unfold bytesOf
  rw [List.map_map]
  have : ((fun n : Int => UInt8.ofNat n.toNat) ∘ fun c : UInt8 => (c.toNat : Int)) = id := by
    funext c
    simp [Function.comp]
  rw [this, List.map_id]
/-- The list that is written: in an elder world w0, and fit to be written. -/
structure WrIn (w0 : World) (A : Option Addr) (c : Nat) (xs : List NodeT) : Prop where
  reads : Kd.C kNode w0 A xs.length xs
  cap : xs.length ≤ c
  few : xs.length ≤ 100000000
  light : wt xs 0 xs.length ≤ 134217728
  made : ∀ i, (nd xs i).2.2.1 = true → (nd xs i).2.2.2.2.size = 0
def WrEnd (xs : List NodeT) (m i g : Nat) (A : Option Addr) (c : Nat) (w : World) (en : Ending) (w' : World) : Prop :=
  en = .returned (.string (wrE xs m i).1) ∧ At w' g 77 #[.slice A xs.length c, .int .i64 ((wrE xs m i).2 : Nat)] ∧ w.grownBy w' (some g)
def Writes (w0 : World) (A : Option Addr) (c : Nat) (xs : List NodeT) (m : Nat) : Prop :=
  ∀ (i g : Nat) (w : World), i < xs.length → 2 * (xs.length - i) + 1 ≤ m → Below w0.heap.size w0 w → w0.heap.size ≤ g → At w g 77 #[.slice A xs.length c, .int .i64 (i : Nat)] →
    Calls Try.prog 33 #[.pointer (some ⟨g, 0, none⟩)] w (WrEnd xs m i g A c w)
theorem grown_trans {a b c : World} {r : Option Nat} (h : a.grownBy b r) (k : b.grownBy c r) : a.grownBy c r :=
  ⟨k.os.trans h.os, k.tape.trans h.tape, k.output.trans h.output, Nat.le_trans h.size k.size, fun i hi hn => (k.block i (Nat.lt_of_lt_of_le hi h.size) hn).trans (h.block i hi hn)⟩
theorem grown_drew {a b : World} {r : Option Nat} (h : a.grownBy b r) : a.grownBy b.drew r := ⟨h.os, h.tape, h.output, h.size, h.block⟩
theorem below_grow {B : Nat} {a b c : World} {g : Nat} (h : Below B a b) (k : b.grownBy c (some g)) (hB : B ≤ b.heap.size) (hg : B ≤ g) : Below B a c := below_kept h k hB hg

set_option maxRecDepth 100000 in
set_option maxHeartbeats 2000000 in
theorem element_write (w0 : World) (A : Option Addr) (c : Nat) (xs : List NodeT) (hI : WrIn w0 A c xs) (m : Nat) (ih : ∀ k, k < m + 1 → Writes w0 A c xs k) (i g : Nat) (w : World) (hi : i < xs.length) (hm : 2 * (xs.length - i) + 1 ≤ m + 1) (hB : Below w0.heap.size w0 w) (hg : w0.heap.size ≤ g)
    (hA : At w g 77 #[.slice A xs.length c, .int .i64 (i : Nat)]) : Calls Try.prog 33 #[.pointer (some ⟨g, 0, none⟩)] w (WrEnd xs (m + 1) i g A c w) := by
  obtain ⟨hR, hcap, hfew, hlight, hmade⟩ := hI
  obtain ⟨n, hn⟩ : ∃ n, n = nd xs i := ⟨_, rfl⟩
  obtain ⟨ad, rfl, n0, n1, n2, n3, n4⟩ := node_at (Kd.C_below hR hB) i hi
  rw [← hn] at n0 n1 n2 n3 n4
  have HN := Lib.hid hn
  have HM := Lib.hid hmade
  have IH := Lib.hid ih
  have HR := Lib.hid hR
  have hbl : (ad.add (i * 5)).block < w.heap.size := World.block_lt_of_cell? w _ n0
  have i0 : (0 : Int) ≤ (i : Int) := by omega
  have i1 : (i : Int) < (xs.length : Int) := by omega
  have hlt := hA.lt
  clear hn hmade ih hR
  go_enter Try.func33, Try.ntmps33
  go_wp2_with fail
  refine start_ (n := 12) (S := fun V => V.cell? ⟨g, 0, none⟩ = some (.slice (some ad) xs.length c) ∧ V.cell? ⟨g, 1, none⟩ = some (.int .i64 (i : Nat)) ∧ V.cell? (ad.add (i * 5)) = some (.int .i64 n.1) ∧ V.cell? ⟨(ad.add (i * 5)).block, (ad.add (i * 5)).off + 1, none⟩ = some (.int .i64 n.2.1) ∧ V.cell? ⟨(ad.add (i * 5)).block, (ad.add (i * 5)).off + 2, none⟩ = some (.bool n.2.2.1) ∧ V.cell? ⟨(ad.add (i * 5)).block, (ad.add (i * 5)).off + 3, none⟩ = some (.int .i64 n.2.2.2.1) ∧ V.cell? ⟨(ad.add (i * 5)).block, (ad.add (i * 5)).off + 4, none⟩ = some (.string n.2.2.2.2)) (ds := [11]) #[false, false, false, false, false, false, false, false, false, false, false, false] (by kernel_rfl) rfl rfl ⟨(hA.drew.cell 0).trans rfl, (hA.drew.cell 1).trans rfl, n0, n1, n2, n3, n4⟩ (fun hHeld => ?_)
  refine pure_ (i := 0) (N := some 5) (v := ?_) (a' := ?_) #[true, false, false, false, false, false, false, false, false, false, false, false] rfl rfl (by kernel_rfl) (fun _ _ _ h => h) (Or.inl ⟨by rfl, ?_⟩) ?_ ?_
  rotate_left
  · intro w'
    go_simp
    with_reducible rfl
  rotate_left
  · simp only [Act.put, List.setIfInBounds_toArray, List.set_cons_zero, List.set_cons_succ, i64_w, i32_w]
    rfl
  refine pure_ (i := 1) (N := some 6) (v := ?_) (a' := ?_) #[true, true, false, false, false, false, false, false, false, false, false, false] rfl rfl (by kernel_rfl) (fun _ _ _ h => h) (Or.inl ⟨by rfl, ?_⟩) ?_ ?_
  rotate_left
  · intro w'
    go_simp
    with_reducible rfl
  rotate_left
  · simp only [Act.put, List.setIfInBounds_toArray, List.set_cons_zero, List.set_cons_succ, i64_w, i32_w]
    rfl
  refine pure_ (i := 2) (N := some 7) (v := ?_) (a' := ?_) #[true, true, true, false, false, false, false, false, false, false, false, false] rfl rfl (by kernel_rfl) (fun _ _ _ h => h) (Or.inl ⟨by rfl, ?_⟩) ?_ ?_
  rotate_left
  · intro w'
    go_simp
    with_reducible rfl
  rotate_left
  · simp only [Act.put, List.setIfInBounds_toArray, List.set_cons_zero, List.set_cons_succ, i64_w, i32_w]
    rfl
  refine pure_ (i := 4) (N := some 9) (v := ?_) (a' := ?_) #[true, true, true, false, true, false, false, false, false, false, false, false] rfl rfl (by kernel_rfl) (fun _ _ _ h => h) (Or.inl ⟨by rfl, ?_⟩) ?_ ?_
  rotate_left
  · intro w'
    go_simp
    with_reducible rfl
  rotate_left
  · simp only [Act.put, List.setIfInBounds_toArray, List.set_cons_zero, List.set_cons_succ, i64_w, i32_w]
    rfl
  refine pure_ (i := 5) (N := some 10) (v := ?_) (a' := ?_) #[true, true, true, false, true, true, false, false, false, false, false, false] rfl rfl (by kernel_rfl) (fun _ _ _ h => h) (Or.inl ⟨by rfl, ?_⟩) ?_ ?_
  rotate_left
  · intro w'
    go_simp
    with_reducible rfl
  rotate_left
  · simp only [Act.put, List.setIfInBounds_toArray, List.set_cons_zero, List.set_cons_succ, i64_w, i32_w]
    rfl
  refine pure_ (i := 6) (N := some 11) (v := ?_) (a' := ?_) #[true, true, true, false, true, true, true, false, false, false, false, false] rfl rfl (by kernel_rfl) (fun _ _ _ h => h) (Or.inl ⟨by rfl, ?_⟩) ?_ ?_
  rotate_left
  · intro w'
    go_simp
    with_reducible rfl
  rotate_left
  · simp only [Act.put, List.setIfInBounds_toArray, List.set_cons_zero, List.set_cons_succ, i64_w, i32_w]
    rfl
  refine take_ (i := 3) (N := some 8) (v := ?_) (a' := ?_) #[true, true, true, true, true, true, true, false, false, false, false, false] rfl rfl (by kernel_rfl) (fun _ _ _ h => h) (Or.inl ⟨by rfl, ?_⟩) hHeld ?_ ?_
  rotate_left
  · rintro w' ⟨s0, s1, s2, s3, s4, s5, s6⟩
    go_simp
    with_reducible rfl
  rotate_left
  · simp only [Act.put, List.setIfInBounds_toArray, List.set_cons_zero, List.set_cons_succ, i64_w, i32_w]
    rfl
  refine take_ (i := 7) (N := some 12) (v := ?_) (a' := ?_) #[true, true, true, true, true, true, true, true, false, false, false, false] rfl rfl (by kernel_rfl) (fun _ _ _ h => h) (Or.inl ⟨by rfl, ?_⟩) hHeld ?_ ?_
  rotate_left
  · rintro w' ⟨s0, s1, s2, s3, s4, s5, s6⟩
    go_simp
    with_reducible rfl
  rotate_left
  · simp only [Act.put, List.setIfInBounds_toArray, List.set_cons_zero, List.set_cons_succ, i64_w, i32_w]
    rfl
  refine pure_ (i := 8) (N := some 13) (v := ?_) (a' := ?_) #[true, true, true, true, true, true, true, true, true, false, false, false] rfl rfl (by kernel_rfl) (fun _ _ _ h => h) (Or.inl ⟨by rfl, ?_⟩) ?_ ?_
  rotate_left
  · intro w'
    go_simp
    with_reducible rfl
  rotate_left
  · simp only [Act.put, List.setIfInBounds_toArray, List.set_cons_zero, List.set_cons_succ, i64_w, i32_w]
    rfl
  refine take_ (i := 9) (N := some 14) (v := ?_) (a' := ?_) #[true, true, true, true, true, true, true, true, true, true, false, false] rfl rfl (by kernel_rfl) (fun _ _ _ h => h) (Or.inl ⟨by rfl, ?_⟩) hHeld ?_ ?_
  rotate_left
  · rintro w' ⟨s0, s1, s2, s3, s4, s5, s6⟩
    go_simp
    with_reducible rfl
  rotate_left
  · simp only [Act.put, List.setIfInBounds_toArray, List.set_cons_zero, List.set_cons_succ, i64_w, i32_w]
    rfl
  refine one_ (i := 10) (N := some 3) #[true, true, true, true, true, true, true, true, true, true, true, false] rfl rfl (by kernel_rfl) (by decide) (fun K hK => ?_)
  refine value_ (w1 := ?_) (v := ?_) (by rfl) rfl ?_ ?_
  rotate_left 2
  · go_simp
    constructor
    · rfl
    · rfl
  refine hK.out _ _ ⟨((hA.drew.alloc _).cell 0).trans rfl, ((hA.drew.alloc _).cell 1).trans rfl, (World.cell?_alloc_lt w.drew _ (ad.add (i * 5)) hbl).trans n0, (World.cell?_alloc_lt w.drew _ ⟨(ad.add (i * 5)).block, (ad.add (i * 5)).off + 1, none⟩ hbl).trans n1, (World.cell?_alloc_lt w.drew _ ⟨(ad.add (i * 5)).block, (ad.add (i * 5)).off + 2, none⟩ hbl).trans n2, (World.cell?_alloc_lt w.drew _ ⟨(ad.add (i * 5)).block, (ad.add (i * 5)).off + 3, none⟩ hbl).trans n3, (World.cell?_alloc_lt w.drew _ ⟨(ad.add (i * 5)).block, (ad.add (i * 5)).off + 4, none⟩ hbl).trans n4⟩ (fun hHeld => ?_)
  clear hK K
  refine norm_ (a' := ?_) ?_ ?_
  rotate_left
  · show Act.put _ (some 3) _ = _
    simp only [Act.put, List.setIfInBounds_toArray, List.set_cons_zero, List.set_cons_succ, i64_w, i32_w]
    rfl
  refine last_ (i := 11) (N := none) #[true, true, true, true, true, true, true, true, true, true, true, true] rfl rfl (by kernel_rfl) (by decide) (fun K hK => ?_)
  refine skip_ (w1 := ?_) (by rfl) rfl ?_ ?_
  rotate_left
  · go_simp
    rfl
  refine hK.out _ _ ?_
  clear hK K
  refine done_ (by kernel_rfl) ?_
  clear hHeld n0 n1 n2 n3 n4
  have c1 := (hA.cell 1).trans rfl
  have f1 := hA.free 1
  have hwE := HN.out
  obtain ⟨nd0, nc, nm, nt, nb⟩ := n
  have hbody : nb.size ≤ 134217728 := by
    have h1 := wt_one xs hi
    rw [← hwE] at h1
    have h2 := wt_split xs (i := 0) (j := i) (k := i + 1) (by omega) (by omega)
    have h3 := wt_all xs (i + 1)
    simp only at h1
    omega
  have hA1 : At ((w.setCell ⟨g, 1, none⟩ (.int .i64 ((i + 1 : Nat) : Int))).alloc (.cells #[.int .i64 nd0, .int .i64 nc, .bool nm, .int .i64 nt, .string nb] 39)).drew g 77 #[.slice (some ad) xs.length c, .int .i64 ((i + 1 : Nat) : Int)] := ((hA.set 1 _).alloc _).drew
  have hG1 : w.grownBy ((w.setCell ⟨g, 1, none⟩ (.int .i64 ((i + 1 : Nat) : Int))).alloc (.cells #[.int .i64 nd0, .int .i64 nc, .bool nm, .int .i64 nt, .string nb] 39)).drew (some g) := grown_drew (grown_alloc (grown_set (grown_refl w _) 1 _) _)
  have hN1 : At ((w.setCell ⟨g, 1, none⟩ (.int .i64 ((i + 1 : Nat) : Int))).alloc (.cells #[.int .i64 nd0, .int .i64 nc, .bool nm, .int .i64 nt, .string nb] 39)).drew w.heap.size 39 #[.int .i64 nd0, .int .i64 nc, .bool nm, .int .i64 nt, .string nb] := by
    have := At.new (w.setCell ⟨g, 1, none⟩ (.int .i64 ((i + 1 : Nat) : Int))) 39 #[.int .i64 nd0, .int .i64 nc, .bool nm, .int .i64 nt, .string nb]
    have e : (w.setCell ⟨g, 1, none⟩ (.int .i64 ((i + 1 : Nat) : Int))).heap.size = w.heap.size := by simp [World.setCell]
    rw [e] at this
    exact this.drew
  have ei : ((i + 1 : Nat) : Int) = (i : Int) + 1 := by omega
  rw [ei] at hA1 hG1 hN1
  cases nm with
  | false =>
    have hnot : (!false) = true := rfl
    have hw : wrE xs (m + 1) i = (layS nc false nt nb, i + 1) := by rw [wrE, ← hwE]; rfl
    have HW := Lib.hid hw
    have HA1 := Lib.hid hA1
    have HG1 := Lib.hid hG1
    clear hw hwE HN hA1 hG1 hN1 ei
    go_wp2_with fail
    refine (lay_any nc false nt nb _ (by omega)).mono ?_
    rintro en w2 ⟨rfl, b2⟩
    go_wp2
    go_ret
    refine ⟨by rw [HW.out]; rfl, ?_, ?_⟩
    · rw [HW.out]
      exact (HA1.out.below b2 HA1.out.lt)
    · exact grown_trans HG1.out (grown_below b2 _)
  | true =>
    have hnot : (!true) = false := rfl
    have hw : wrE xs (m + 1) i = (layS nc true nt (wrK xs m (i + 1) nd0 ⟨#[]⟩).1, (wrK xs m (i + 1) nd0 ⟨#[]⟩).2) := by rw [wrE, ← hwE]; rfl
    have HW := Lib.hid hw
    have HA1 := Lib.hid hA1
    have HG1 := Lib.hid hG1
    have HN1 := Lib.hid hN1
    clear hw hwE HN hA1 hG1 hN1 ei
    go_wp2_with fail
    go_loopw [4] (fun v wr => ∃ (k j : Nat) (b : ByteArray), 2 * (xs.length - j) + 2 ≤ k ∧ k ≤ m ∧ j ≤ xs.length ∧ i < j ∧ Hid (wrK xs m (i + 1) nd0 ⟨#[]⟩ = wrK xs k j nd0 b) ∧ b.size ≤ wt xs 0 j ∧
        At wr g 77 #[.slice (some ad) xs.length c, .int .i64 (j : Nat)] ∧ At wr w.heap.size 39 #[.int .i64 nd0, .int .i64 nc, .bool true, .int .i64 nt, .string nb] ∧
        wr.ownsRow w.heap.size 5 1 v (bytesOf b).length (nums .u8 (bytesOf b)) ∧ w.grownBy wr (some g))
      (fun _ wr => xs.length - (intOf ((wr.cell? ⟨g, 1, none⟩).getD undef)).toNat)
    case atStart =>
      have ei : ((i + 1 : Nat) : Int) = (i : Int) + 1 := by omega
      exact ⟨m, i + 1, ⟨#[]⟩, by omega, Nat.le_refl _, by omega, by omega, rfl, Nat.zero_le _, by rw [ei]; exact HA1.out, HN1.out, own_nil _ _ _ _, HG1.out⟩
    case round =>
      obtain ⟨k, j, b, k1, k2, k3, k4, HK, k5, rA, rN, rO, rG⟩ := hrel
      obtain ⟨Ab, cb, rfl⟩ := own_slice rO
      obtain ⟨k, rfl⟩ : ∃ k', k = k' + 1 := ⟨k - 1, by omega⟩
      have zw : w.heap.size ≤ wr.heap.size := rG.size
      have zw0 : w0.heap.size ≤ w.heap.size := hB.size
      have hB2 : Below w0.heap.size w0 wr := below_grow hB rG zw0 hg
      have g0 := (rA.cell 0).trans rfl
      have g1 := (rA.cell 1).trans rfl
      have d0 := (rN.cell 0).trans rfl
      have j0 : (0 : Int) ≤ (j : Int) := by omega
      by_cases hj : j < xs.length
      · obtain ⟨ad', e', m0, m1, m2, m3, m4⟩ := node_at (Kd.C_below HR.out hB2) j hj
        obtain rfl : ad = ad' := Option.some.inj e'
        obtain ⟨dj, hdj⟩ : ∃ dj, dj = (nd xs j).1 := ⟨_, rfl⟩
        rw [← hdj] at m0
        have HDJ := Lib.hid hdj
        have j1 : (j : Int) < (xs.length : Int) := by omega
        clear hdj m1 m2 m3 m4 e'
        by_cases hdp : nd0 < dj
        · have hst : wrK xs (k + 1) j nd0 b = wrK xs k (wrE xs k j).2 nd0 (b ++ (wrE xs k j).1) := by rw [wrK, if_pos ⟨hj, by rw [← HDJ.out]; exact hdp⟩]
          have hwz := (wr_size xs HM.out k).1 j hj
          obtain ⟨kk, hkk⟩ : ∃ kk, k = kk + 1 := ⟨k - 1, by omega⟩
          have hgt := wrE_gt xs kk j
          rw [← hkk] at hgt
          have HST := Lib.hid hst
          have hdec : decide (nd0 < dj) = true := decide_eq_true hdp
          have hdec2 : decide ((j : Int) < (xs.length : Int)) = true := decide_eq_true j1
          have hdec3 : decide (j < xs.length) = true := decide_eq_true hj
          clear hst hkk
          go_wp2_with fail
          go_quiet (fail)
          go_wp2_with fail
          refine (IH.out k (by omega) j g _ hj (by omega) (pw_below_drewN hB2 _) hg (rA.drewN _)).mono ?_
          rintro en w2 ⟨rfl, a2, q2⟩
          have rO2 : w2.ownsRow w.heap.size 5 1 (.slice Ab (bytesOf b).length cb) (bytesOf b).length (nums .u8 (bytesOf b)) := own_other (pw_own_below rO (pw_below_drewN (Below.refl _ _) _)) q2 (by right; exact fun e => own_ne rO rA (by decide) e.symm)
          have rN2 := (rN.drewN _).kept q2 (by have := hlt; omega)
          have rG2 : w.grownBy w2 (some g) := grown_trans (b := wr) rG ⟨q2.os, q2.tape, q2.output, q2.size, q2.block⟩
          have hcur : Hid (wr.cell? ⟨g, 1, none⟩ = some (.int .i64 (j : Nat))) := g1
          have hsz2 := HM
          clear g0 g1 d0 m0 rA rN rO rG q2 hB2
          have zw2 : w.heap.size ≤ w2.heap.size := rG2.size
          have hlen : (bytesOf b).length + (wrE xs k j).1.size ≤ 140737488355328 := by
            rw [bytesOf_length]
            have h3 := wt_all xs (wrE xs k j).2
            have h4 := wt_split xs (i := 0) (j := j) (k := (wrE xs k j).2) (by omega) hwz.1
            omega
          go_wp2_with (at_builtin; go_must (refine print_append_str (w0 := w2) w.heap.size rfl (.tmp 58) (.tmp 60) 68 9 5 rfl Try.underlying68 Try.underlying9 infoU8 (.slice Ab (bytesOf b).length cb) (bytesOf b) (wrE xs k j).1 rfl rfl rO2 (Below.refl _ _) zw2 hlen ?_); intro v1 w3 hO3 hb3 hg3)
          rw [← bytesOf_append] at hO3
          have rA3 : At w3 g 77 #[.slice (some ad) xs.length c, .int .i64 ((wrE xs k j).2 : Nat)] := (hg3.block _ a2.lt (own_ne rO2 a2 (by decide))).trans a2
          have rN3 : At w3 w.heap.size 39 #[.int .i64 nd0, .int .i64 nc, .bool true, .int .i64 nt, .string nb] := (hg3.block _ rN2.lt (own_ne rO2 rN2 (by decide))).trans rN2
          have rG3 : w.grownBy w3 (some g) := ⟨hg3.os.trans rG2.os, hg3.tape.trans rG2.tape, hg3.output.trans rG2.output, Nat.le_trans rG2.size hg3.size, fun q hq hn => (hg3.block q (by omega) (fun e => by have := own_base rO2 q e.symm; omega)).trans (rG2.block q hq hn)⟩
          have hnew := (rA3.cell 1).trans rfl
          clear a2 rO2 rN2 rG2 hb3 hg3
          go_wp2
          go_roundw
          case rel =>
            refine ⟨k, (wrE xs k j).2, b ++ (wrE xs k j).1, by omega, by omega, hwz.2.1, by omega, ?_, ?_, rA3, rN3, hO3, rG3⟩
            · unfold Hid
              rw [HK.out, HST.out]
            · rw [ByteArray.size_append]
              have h4 := wt_split xs (i := 0) (j := j) (k := (wrE xs k j).2) (by omega) hwz.1
              omega
          case measure =>
            rw [hnew, hcur.out]
            simp [intOf]
            omega
        · have hst : wrK xs (k + 1) j nd0 b = (b, j) := by rw [wrK, if_neg (fun h => hdp (by rw [HDJ.out]; exact h.2))]
          have HST := Lib.hid hst
          have hdec : decide (nd0 < dj) = false := decide_eq_false hdp
          have hdec2 : decide ((j : Int) < (xs.length : Int)) = true := decide_eq_true j1
          have hdec3 : decide (j < xs.length) = true := decide_eq_true hj
          clear hst
          have hcv : ∀ q, (convert 68 9 (.slice Ab (bytesOf b).length cb)).run Try.prog (wr.drewN q) = .ok (.string b) (wr.drewN q) := by
            intro q
            have h := own_string (P := Try.prog) (src := 68) (dst := 9) (e := 5) Try.underlying68 Try.underlying5 Try.underlying9 (pw_own_below rO (pw_below_drewN (Below.refl _ _) q))
            rwa [str_bytes] at h
          have hbs : b.size ≤ 4294967295 := by
            have h3 := wt_all xs j
            omega
          have RA := Lib.hid rA
          have RG := Lib.hid rG
          clear rA rG rO
          go_wp2_with fail
          go_quiet (fail)
          have d1 := (rN.cell 1).trans rfl
          have d3 := (rN.cell 3).trans rfl
          go_wp2_with fail
          refine (lay_any nc true nt b _ hbs).mono ?_
          rintro en w2 ⟨rfl, b2⟩
          go_wp2
          go_ret
          refine ⟨by rw [HW.out, HK.out, HST.out]; rfl, ?_, ?_⟩
          · rw [HW.out, HK.out, HST.out]
            exact (RA.out.drewN _).below b2 (RA.out.drewN _).lt
          · exact grown_trans (b := wr) RG.out ⟨b2.os, b2.tape, b2.output, b2.size, fun q hq hn => b2.block q hq⟩
      · have hst : wrK xs (k + 1) j nd0 b = (b, j) := by rw [wrK, if_neg (fun h => hj h.1)]
        have HST := Lib.hid hst
        have hdec2 : decide ((j : Int) < (xs.length : Int)) = false := decide_eq_false (by omega)
        have hdec3 : decide (j < xs.length) = false := decide_eq_false hj
        clear hst
        have hcv : ∀ q, (convert 68 9 (.slice Ab (bytesOf b).length cb)).run Try.prog (wr.drewN q) = .ok (.string b) (wr.drewN q) := by
          intro q
          have h := own_string (P := Try.prog) (src := 68) (dst := 9) (e := 5) Try.underlying68 Try.underlying5 Try.underlying9 (pw_own_below rO (pw_below_drewN (Below.refl _ _) q))
          rwa [str_bytes] at h
        have hbs : b.size ≤ 4294967295 := by
          have h3 := wt_all xs j
          omega
        have RA := Lib.hid rA
        have RG := Lib.hid rG
        clear rA rG rO
        go_wp2_with fail
        go_quiet (fail)
        have d1 := (rN.cell 1).trans rfl
        have d3 := (rN.cell 3).trans rfl
        go_wp2_with fail
        refine (lay_any nc true nt b _ hbs).mono ?_
        rintro en w2 ⟨rfl, b2⟩
        go_wp2
        go_ret
        refine ⟨by rw [HW.out, HK.out, HST.out]; rfl, ?_, ?_⟩
        · rw [HW.out, HK.out, HST.out]
          exact (RA.out.drewN _).below b2 (RA.out.drewN _).lt
        · exact grown_trans (b := wr) RG.out ⟨b2.os, b2.tape, b2.output, b2.size, fun q hq hn => b2.block q hq⟩
end Go.Proofs.Ytbloccjogadlmaa.W
