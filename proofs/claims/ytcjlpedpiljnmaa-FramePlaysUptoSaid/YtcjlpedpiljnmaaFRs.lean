/- Walk of the document's Split: how a whole stream is cut. -/
import Derived.Test.YtcjlpedpiljnmaaFSp
namespace Go.Proofs.Ytcjlpedpiljnmaa.W
open Go.RowKit Go.Proofs.YtcjlpedpiljnmaaW.PrintWords
set_option linter.unusedVariables false
set_option linter.unusedSimpArgs false

/-- The same cutting, told by the document's header. -/
theorem cutAt_head (limit : Int) (s : ByteArray) (p : Nat) (hp : p ≤ s.size) : cutAt limit s p =
    if ¬ (headS limit (s.extract p s.size)).2 = 0 then ([], (p : Int), (headS limit (s.extract p s.size)).2)
    else if (headS limit (s.extract p s.size)).1 = 0 then ([], (p : Int), 0)
    else if (((s.extract p s.size).size : Nat) : Int) < (headS limit (s.extract p s.size)).1 then ([], (p : Int), 0)
    else ((s.extract p s.size).extract 0 (headS limit (s.extract p s.size)).1.toNat :: (cutAt limit s (p + (headS limit (s.extract p s.size)).1.toNat)).1, (cutAt limit s (p + (headS limit (s.extract p s.size)).1.toNat)).2) := by
  by_cases hpe : s.size ≤ p
  · obtain rfl : p = s.size := by omega
    rw [cutAt_end (Nat.le_refl _)]
    have e : s.extract s.size s.size = ⟨#[]⟩ := by
      apply ByteArray.ext
      simp
    rw [e]
    rfl
  rw [cutAt_in (by omega)]
  have hne : (s.extract p s.size).size ≠ 0 := by simp; omega
  generalize hb : s.extract p s.size = b at hne ⊢
  clear hb
  unfold headS
  rcases look_range limit b with ⟨h, h1⟩ | ⟨e, h, h1, h2⟩ | ⟨a, n, h, h1, h2, h3, h4, h5, h6⟩
  · rw [h]
    have e : missS (0, 0, 0) (b.size : Int) = 2 - b.size := rfl
    simp only [e]
    rw [if_neg (by simp), if_pos (by omega)]
    simp
  · rw [h]
    have hz : ¬ e = 0 := by omega
    simp only
    rw [if_pos hz, if_pos hz, if_pos hz]
  · have e : missS (a, n, 0) (b.size : Int) = if 0 < a + n - b.size then a + n - b.size else 0 := by unfold missS; rw [if_neg (fun z => by have := z.1; simp at this; omega), if_pos rfl]
    rw [h, e]
    have a0 : ¬ a = 0 := by omega
    by_cases c : (b.size : Int) < a
    · have c3 : 0 < a + n - (b.size : Int) := by omega
      simp only [if_pos c3]
      simp [a0, c]
    · by_cases c2 : 0 < a + n - (b.size : Int)
      · have c4 : (b.size : Int) < a + n := by omega
        have c5 : ¬ a + n = 0 := by omega
        simp only [if_pos c2]
        simp [a0, c, c4, c5]
      · have c4 : ¬ (b.size : Int) < a + n := by omega
        have c5 : ¬ a + n = 0 := by omega
        simp only [if_neg c2]
        simp [a0, c, c4, c5]

set_option maxRecDepth 100000 in
set_option maxHeartbeats 4000000 in
theorem rsplit_any (limit : Int) (s : ByteArray) (w : World) (hs : s.size ≤ 16777216) : Calls Try.prog 18 #[.int .i64 limit, .string s] w fun en w' => ∃ v0_ : Value, en = .returned (.agg #[v0_, .int .i64 (cutAt limit s 0).2.1, .int .i64 (cutAt limit s 0).2.2]) ∧
    Kd.R Kd.string 9 w' w.heap.size (fun _ => True) v0_ (cutAt limit s 0).1 ∧ Below w.heap.size w w' := by
  obtain ⟨out, hout⟩ : ∃ out, out = cutAt limit s 0 := ⟨_, rfl⟩
  rw [← hout]
  have HO := Lib.hid hout
  clear hout
  go_enter Try.func18, Try.ntmps18
  go_wp2_with fail
  refine gen2 (G := fun W => Code.wp _ _ _ _ W) fun W hB hz k1 k2 => ?_
  go_loopw [] (fun wr => ∃ (p : Nat) (l : List ByteArray) (v : Value), p ≤ s.size ∧ 2 * l.length ≤ p ∧ Hid (out = (l ++ (cutAt limit s p).1, (cutAt limit s p).2)) ∧
      At wr (w.heap.size + 1) 29 #[v, .int .i64 p, .int .i64 0] ∧ At wr w.heap.size 29 #[.slice none 0 0, .int .i64 0, .int .i64 0] ∧ Kd.R Kd.string 9 wr w.heap.size (fun k => w.heap.size + 2 ≤ k) v l ∧ Below w.heap.size w wr)
    (fun wr => s.size - (intOf ((wr.cell? ⟨w.heap.size + 1, 1, none⟩).getD undef)).toNat)
  case atStart => exact ⟨0, [], _, Nat.zero_le _, Nat.le_refl _, by unfold Hid; rw [HO.out]; simp, k2, k1, Kd.R_nil _ _ _ _ _, hB⟩
  case round =>
    obtain ⟨p, l, v, hp, hl, HR, rC, rZ, rO, rB⟩ := hrel
    obtain ⟨A, cp, rfl⟩ := Kd.R_slice rO
    clear k1 k2 hB HO hz
    have c0 := (rC.cell 0).trans rfl
    have c1 := (rC.cell 1).trans rfl
    obtain ⟨h, hh⟩ : ∃ h, h = headS limit (s.extract p s.size) := ⟨_, rfl⟩
    have hst := cutAt_head limit s p hp
    rw [← hh] at hst
    have hpos : 0 ≤ h.1 ∧ (h.1 = 0 ∨ 2 ≤ h.1) ∧ h.1 ≤ 4294967301 := by
      rw [hh]
      unfold headS
      rcases look_range limit (s.extract p s.size) with ⟨q, _⟩ | ⟨e, q, _, _⟩ | ⟨a, n, q, q1, q2, q3, q4, _, _⟩
      · rw [q]; simp
      · rw [q]; split <;> simp
      · rw [q]; split <;> (try split) <;> (try split) <;> simp <;> omega
    have hxz : (s.extract p s.size).size = s.size - p := by simp
    rw [hxz] at hst
    have HS := Lib.hid hst
    have HH := Lib.hid hh
    clear hst hh
    have q0 : (0 : Int) ≤ p := by omega
    have q1 : (p : Int) ≤ s.size := by omega
    go_wp2_with fail
    refine (rhead_any limit (s.extract p s.size) _).mono ?_
    rintro en w1 ⟨rfl, b1⟩
    rw [← HH.out]
    have HC1 : Hid (wr.cell? ⟨w.heap.size + 1, 1, none⟩ = some (.int .i64 p)) := c1
    have rC2 := rC.below b1 rC.lt
    have rZ2 := rZ.below b1 rZ.lt
    have rO2 := Kd.R_below rO b1
    have rB2 := rB.trans (b1.mono rB.size)
    clear rC rZ rO rB c0 c1 b1
    have c0 := (rC2.cell 0).trans rfl
    have c1 := (rC2.cell 1).trans rfl
    have c2 := (rC2.cell 2).trans rfl
    have f0 := rC2.free 0
    have f1 := rC2.free 1
    have f2 := rC2.free 2
    have l1 := rC2.lt
    have z0 := (rZ2.cell 0).trans rfl
    have z1 := (rZ2.cell 1).trans rfl
    have z2 := (rZ2.cell 2).trans rfl
    have y0 := rZ2.free 0
    have y1 := rZ2.free 1
    have y2 := rZ2.free 2
    have l0 := rZ2.lt
    by_cases he : h.2 = 0
    · by_cases hw0 : h.1 = 0
      · go_wp2_with fail
        have hce := HS.out
        rw [if_neg (by omega), if_pos hw0] at hce
        have HE := Lib.hid hce
        clear hce
        refine bodyPost_ret (v := .agg #[.slice A l.length cp, .int .i64 p, .int .i64 0]) ?_ rfl ⟨.slice A l.length cp, ?_, ?_, ?_⟩
        · simp [results, Try.results18, go_sem, z0, z1, z2]
        · rw [HR.out, HE.out]
        · rw [HR.out, HE.out]
          simp only [List.append_nil]
          refine Kd.R_mono (ok := fun k => w.heap.size + 2 ≤ k) ?_ (fun _ _ => trivial)
          exact Kd.R_far (Kd.R_far (Kd.R_far rO2 (fun k hk => by simp; omega) _) (fun k hk => by simp; omega) _) (fun k hk => by simp; omega) _
        · exact ((rB2.setCell (by simp) _).setCell (by simp) _).setCell (by simp) _
      · by_cases hw1 : ((s.size - p : Nat) : Int) < h.1
        · go_wp2_with fail
          have hce := HS.out
          rw [if_neg (by omega), if_neg hw0, if_pos hw1] at hce
          have HE := Lib.hid hce
          clear hce
          refine bodyPost_ret (v := .agg #[.slice A l.length cp, .int .i64 p, .int .i64 0]) ?_ rfl ⟨.slice A l.length cp, ?_, ?_, ?_⟩
          · simp [results, Try.results18, go_sem, z0, z1, z2]
          · rw [HR.out, HE.out]
          · rw [HR.out, HE.out]
            simp only [List.append_nil]
            refine Kd.R_mono (ok := fun k => w.heap.size + 2 ≤ k) ?_ (fun _ _ => trivial)
            exact Kd.R_far (Kd.R_far (Kd.R_far rO2 (fun k hk => by simp; omega) _) (fun k hk => by simp; omega) _) (fun k hk => by simp; omega) _
          · exact ((rB2.setCell (by simp) _).setCell (by simp) _).setCell (by simp) _
        · have hw2 : h.1 ≤ ((s.size - p : Nat) : Int) := by omega
          have hw0b : (h.1 == 0) = false := by simpa using hw0
          have hce := HS.out
          rw [if_neg (by omega), if_neg hw0, if_neg hw1] at hce
          have HE := Lib.hid hce
          clear hce
          go_wp2_with fail
          have hne : some (w.heap.size + 1) ≠ (Value.slice A l.length cp).ownBlock := fun e => by have := rO2.1 _ e.symm; omega
          have hne0 : some w.heap.size ≠ (Value.slice A l.length cp).ownBlock := fun e => by have := rO2.1 _ e.symm; omega
          have t1 : h.1.toNat ≤ s.size - p := by omega
          have hlen : (l.length + 1) * 16 ≤ 140737488355328 := by omega
          go_region_law (refine Kd.R_append_step Kd.string (w0 := w) (W := w1.drew) w.heap.size (by rfl) (.tmp 35) (.tmp 39) 24 9 (.string ⟨#[]⟩) 16 (by rfl) Try.underlying24 info_str (by rfl) (by decide) (by decide) (.slice A l.length cp) l ((s.extract p s.size).extract 0 h.1.toNat) [.string ((s.extract p s.size).extract 0 h.1.toNat)] (fun k => w.heap.size + 2 ≤ k) (fun _ => False) (by simp [Act.eval, Act.put]) (by simp [Act.eval, Act.put]) (by rfl) (fun _ h => h.elim) (fun k hk => by have hk := hk; simp at hk; omega) (by exact rO2) (by exact rB2.drew) (by simp; omega) hlen ?_; intro v1 w3 hR3 hb3 hg3 hat3; obtain ⟨A3, cp3, rfl⟩ := Kd.R_slice hR3; have rC3 : At w3 (w.heap.size + 1) 29 #[.slice A l.length cp, .int .i64 p, .int .i64 0] := (hg3.block _ (by simp; omega) hne).trans (by exact rC2); have s0 := (rC3.cell 0).trans rfl; have s1 := rC3.free 0)
          all_goals
            have rZ3 : At w3 w.heap.size 29 #[.slice none 0 0, .int .i64 0, .int .i64 0] := (hg3.block _ (by simp; omega) hne0).trans (by exact rZ2)
            have rC4 : At (w3.setCell ⟨w.heap.size + 1, 0, none⟩ (.slice A3 (l.length + 1) cp3)) (w.heap.size + 1) 29 #[.slice A3 (l.length + 1) cp3, .int .i64 p, .int .i64 0] := rC3.set 0 _
            have rZ4 := rZ3.far (p := ⟨w.heap.size + 1, 0, none⟩) (by simp) (.slice A3 (l.length + 1) cp3)
            have rO4 : Kd.R Kd.string 9 (w3.setCell ⟨w.heap.size + 1, 0, none⟩ (.slice A3 (l.length + 1) cp3)) w.heap.size (fun k => w.heap.size + 2 ≤ k) (.slice A3 (l.length + 1) cp3) (l ++ [(s.extract p s.size).extract 0 h.1.toNat]) :=
              Kd.R_far (by simpa using hR3) (fun k hk => by simp; omega) _
            have rB4 := hb3.setCell (p := ⟨w.heap.size + 1, 0, none⟩) (by simp) (.slice A3 (l.length + 1) cp3)
            clear rC2 rZ2 rO2 rB2 rC3 rZ3 hR3 hb3 hg3 hat3 s0 s1 c0 c1 c2 f0 f1 f2 l1 z0 z1 z2 y0 y1 y2 l0 hne hne0
            generalize w3.setCell ⟨w.heap.size + 1, 0, none⟩ (.slice A3 (l.length + 1) cp3) = W4 at rC4 rZ4 rO4 rB4 ⊢
            have c1 := (rC4.cell 1).trans rfl
            have f1 := rC4.free 1
            have e5 : wrap64 ((p : Int) + h.1) = p + h.1 := by unfold wrap64; omega
            go_wp2
            have rC5 : At (W4.setCell ⟨w.heap.size + 1, 1, none⟩ (.int .i64 ((p : Int) + h.1))) (w.heap.size + 1) 29 #[.slice A3 (l.length + 1) cp3, .int .i64 ((p : Int) + h.1), .int .i64 0] := rC4.set 1 _
            have ep : ((p + h.1.toNat : Nat) : Int) = p + h.1 := by omega
            have cN := (rC5.cell 1).trans rfl
            go_roundw
            case rel =>
              refine ⟨p + h.1.toNat, l ++ [(s.extract p s.size).extract 0 h.1.toNat], .slice A3 (l.length + 1) cp3, by omega, by simp; omega, ?_, ?_, rZ4.far (by simp) _, Kd.R_far rO4 (fun k hk => by simp; omega) _, rB4.setCell (by simp) _⟩
              · unfold Hid
                rw [HR.out, HE.out]
                simp
              · rw [ep]
                exact rC5
            case measure =>
              rw [cN, HC1.out]
              simp [intOf]
              omega
    · go_wp2_with fail
      have hce := HS.out
      rw [if_pos he] at hce
      have HE := Lib.hid hce
      clear hce
      refine bodyPost_ret (v := .agg #[.slice A l.length cp, .int .i64 p, .int .i64 h.2]) ?_ rfl ⟨.slice A l.length cp, ?_, ?_, ?_⟩
      · simp [results, Try.results18, go_sem, z0, z1, z2]
      · rw [HR.out, HE.out]
      · rw [HR.out, HE.out]
        simp only [List.append_nil]
        refine Kd.R_mono (ok := fun k => w.heap.size + 2 ≤ k) ?_ (fun _ _ => trivial)
        exact Kd.R_far (Kd.R_far (Kd.R_far (Kd.R_far rO2 (fun k hk => by simp; omega) _) (fun k hk => by simp; omega) _) (fun k hk => by simp; omega) _) (fun k hk => by simp; omega) _
      · exact (((rB2.setCell (by simp) _).setCell (by simp) _).setCell (by simp) _).setCell (by simp) _
end Go.Proofs.Ytcjlpedpiljnmaa.W
