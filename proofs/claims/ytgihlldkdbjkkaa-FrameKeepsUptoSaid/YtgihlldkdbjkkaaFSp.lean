/- Walk of frame.Split: how a whole stream is cut. -/
import Derived.Test.YtgihlldkdbjkkaaProg
import Derived.Test.YtgihlldkdbjkkaaMa
import Derived.Test.YtgihlldkdbjkkaaFMi
import Derived.Test.YtgihlldkdbjkkaaFN
import Derived.WalkLawsBesides
import Derived.WalkSpells
import Derived.RegionTactic
import Derived.ChangeAlike
import Derived.BigRegion
import Derived.IntWalk
import Derived.Lib.Hide
import Derived.Outline
import Derived.Deep.AppendLies
import Derived.Deep.RegionLaw
namespace Go.Proofs.Ytgihlldkdbjkkaa.W
open Go.RowKit Go.Proofs.YtgihlldkdbjkkaaW.PrintWords
set_option linter.unusedVariables false
set_option linter.unusedSimpArgs false

theorem info_str : (Try.prog.info? 9).map (fun i => (i.zero, i.size, i.bytes)) = some (some (.string ⟨#[]⟩), 1, 16) := by kernel_rfl

set_option maxRecDepth 100000 in
set_option maxHeartbeats 4000000 in
theorem fsplit_any (limit : Int) (s : ByteArray) (w : World) (hs : s.size ≤ 16777216) : Calls Try.prog 8 #[.int .i64 limit, .string s] w fun en w' => ∃ v0_ : Value, en = .returned (.agg #[v0_, .int .i64 (cutAt limit s 0).2.1, .int .i64 (cutAt limit s 0).2.2]) ∧
    Kd.R Kd.string 9 w' w.heap.size (fun _ => True) v0_ (cutAt limit s 0).1 ∧ Below w.heap.size w w' := by
  obtain ⟨out, hout⟩ : ∃ out, out = cutAt limit s 0 := ⟨_, rfl⟩
  rw [← hout]
  have HO := Lib.hid hout
  clear hout
  go_enter Try.func8, Try.ntmps8
  go_wp2_with fail
  refine gen2 (G := fun W => Code.wp _ _ _ _ W) fun W hB hz k1 k2 => ?_
  go_loopw [] (fun wr => ∃ (p : Nat) (l : List ByteArray) (v : Value), p ≤ s.size ∧ 2 * l.length ≤ p ∧ Hid (out = (l ++ (cutAt limit s p).1, (cutAt limit s p).2)) ∧
      At wr (w.heap.size + 1) 39 #[v, .int .i64 p, .int .i64 0] ∧ At wr w.heap.size 39 #[.slice none 0 0, .int .i64 0, .int .i64 0] ∧ Kd.R Kd.string 9 wr w.heap.size (fun k => w.heap.size + 2 ≤ k) v l ∧ Below w.heap.size w wr)
    (fun wr => s.size - (intOf ((wr.cell? ⟨w.heap.size + 1, 1, none⟩).getD undef)).toNat)
  case atStart => exact ⟨0, [], _, Nat.zero_le _, Nat.le_refl _, by unfold Hid; rw [HO.out]; simp, k2, k1, Kd.R_nil _ _ _ _ _, hB⟩
  case round =>
    obtain ⟨p, l, v, hp, hl, HR, rC, rZ, rO, rB⟩ := hrel
    obtain ⟨A, cp, rfl⟩ := Kd.R_slice rO
    clear k1 k2 hB HO hz
    have c0 := (rC.cell 0).trans rfl
    have c1 := (rC.cell 1).trans rfl
    have f0 := rC.free 0
    have f1 := rC.free 1
    have f2 := rC.free 2
    have l1 := rC.lt
    by_cases hpe : p < s.size
    · have hxs : (s.extract p s.size).size ≤ 140737488351232 := by simp; omega
      obtain ⟨h, hh⟩ : ∃ h, h = lookS limit (s.extract p s.size) := ⟨_, rfl⟩
      have hst := cutAt_in (limit := limit) hpe
      rw [← hh] at hst
      have hlk := look_ok limit (s.extract p s.size)
      rw [← hh] at hlk
      obtain ⟨m, hm⟩ : ∃ m, m = missS h ((s.extract p s.size).size : Int) := ⟨_, rfl⟩
      rw [← hm] at hst
      have hwh := fun (h0 : h.2.2 = 0) (hq : ¬ 0 < m) => whole_of (limit := limit) (b := s.extract p s.size) (by simp; omega) (by rw [← hh]; exact h0) (by rw [← hh, ← hm]; exact hq)
      rw [← hh] at hwh
      have hxz : (s.extract p s.size).size = s.size - p := by simp
      rw [hxz] at hm hwh
      have HW := Lib.hid hwh
      have HM := Lib.hid hm
      have HS := Lib.hid hst
      have HH := Lib.hid hh
      clear hst hh hm hwh
      have q0 : (0 : Int) ≤ p := by omega
      have q1 : (p : Int) ≤ s.size := by omega
      go_wp2_with fail
      refine (look_any limit (s.extract p s.size) _ hxs).mono ?_
      rintro en w1 ⟨rfl, b1⟩
      rw [← HH.out]
      have rC1 := rC.below b1 rC.lt
      have rZ1 := rZ.below b1 rZ.lt
      have rO1 := Kd.R_below rO b1
      have rB1 := rB.trans (b1.mono rB.size)
      have HC1 : Hid (wr.cell? ⟨w.heap.size + 1, 1, none⟩ = some (.int .i64 p)) := c1
      clear rC rZ rO rB c0 c1 f0 f1 f2 l1 b1
      have c0 := (rC1.cell 0).trans rfl
      have c1 := (rC1.cell 1).trans rfl
      have c2 := (rC1.cell 2).trans rfl
      have f0 := rC1.free 0
      have f1 := rC1.free 1
      have f2 := rC1.free 2
      have l1 := rC1.lt
      have z0 := (rZ1.cell 0).trans rfl
      have z1 := (rZ1.cell 1).trans rfl
      have z2 := (rZ1.cell 2).trans rfl
      have y0 := rZ1.free 0
      have y1 := rZ1.free 1
      have y2 := rZ1.free 2
      have l0 := rZ1.lt
      by_cases he : h.2.2 = 0
      · have heb : (h.2.2 != 0) = false := by simp [he]
        have hlk2 : (h.1 = 0 ∧ h.2.1 = 0 ∧ (0 : Int) = 0) ∨ ¬ (0 : Int) = 0 ∨ (2 ≤ h.1 ∧ h.1 ≤ 6 ∧ 0 ≤ h.2.1 ∧ h.2.1 < 4294967296 ∧ (0 : Int) = 0) := by rw [he] at hlk; exact hlk
        have HK2 := Lib.hid hlk2
        clear hlk2
        have hwh := HW.out he
        have HW2 := Lib.hid hwh
        have HM2 : Hid (missS (h.1, h.2.1, 0) ((s.size - p : Nat) : Int) = m) := by
          unfold Hid
          rw [HM.out, ← he]
        have HS2 : Hid (cutAt limit s p = if 0 < m then ([], (p : Int), 0) else ((s.extract p s.size).extract 0 (h.1 + h.2.1).toNat :: (cutAt limit s (p + (h.1 + h.2.1).toNat)).1, (cutAt limit s (p + (h.1 + h.2.1).toNat)).2)) := by
          unfold Hid
          rw [HS.out, if_neg (fun z => z he)]
        clear hwh
        go_wp2_with fail
        refine gen1 (G := fun W => Calls _ _ _ W _) fun W hB2 hz k1 => ?_
        refine (fmissing_any h.1 h.2.1 0 ((s.size - p : Nat) : Int) W (by omega) (by omega) (by simpa using HK2.out)).mono ?_
        rintro en w2 ⟨rfl, b2⟩
        rw [HM2.out]
        have rC2 := (rC1.below hB2 rC1.lt).below b2 (by omega)
        have rZ2 := (rZ1.below hB2 rZ1.lt).below b2 (by omega)
        have rO2 := Kd.R_below (Kd.R_below rO1 hB2) b2
        have k2 := k1.below b2 k1.lt
        have rB2 := (rB1.trans (hB2.mono rB1.size)).trans (b2.mono (by have := rB1.size; omega))
        have hzz : w1.heap.size < w2.heap.size := k2.lt
        clear c0 c1 c2 f0 f1 f2 l1 z0 z1 z2 y0 y1 y2 l0 hB2 b2 k1 HM HM2 HS HW
        have c0 := (rC2.cell 0).trans rfl
        have c1 := (rC2.cell 1).trans rfl
        have c2 := (rC2.cell 2).trans rfl
        have f0 := rC2.free 0
        have f1 := rC2.free 1
        have f2 := rC2.free 2
        have l1 := rC2.lt
        have z0 := (rZ2.cell 0).trans rfl
        have z1 := (rZ2.cell 1).trans rfl
        have z2 := (rZ2.cell 2).trans rfl
        have y0 := rZ2.free 0
        have y1 := rZ2.free 1
        have y2 := rZ2.free 2
        have l0 := rZ2.lt
        have h0 := (k2.cell 0).trans rfl
        have h1 := (k2.cell 1).trans rfl
        have h2 := (k2.cell 2).trans rfl
        by_cases hm : 0 < m
        · go_wp2_with fail
          have hce := HS2.out
          rw [if_pos hm] at hce
          have HE := Lib.hid hce
          clear hce
          refine bodyPost_ret (v := .agg #[.slice A l.length cp, .int .i64 p, .int .i64 0]) ?_ rfl ⟨.slice A l.length cp, ?_, ?_, ?_⟩
          · simp [results, Try.results8, go_sem, z0, z1, z2]
          · rw [HR.out, HE.out]
          · rw [HR.out, HE.out]
            simp only [List.append_nil]
            refine Kd.R_mono (ok := fun k => w.heap.size + 2 ≤ k) ?_ (fun _ _ => trivial)
            exact Kd.R_far (Kd.R_far (Kd.R_far (Kd.R_far rO2 (fun k hk => by simp; omega) _) (fun k hk => by simp; omega) _) (fun k hk => by simp; omega) _) (fun k hk => by simp; omega) _
          · exact (((rB2.setCell (by simp) _).setCell (by simp) _).setCell (by simp) _).setCell (by simp) _
        · have hwh := HW2.out (by omega)
          go_wp2_with fail
          have hne : some (w.heap.size + 1) ≠ (Value.slice A l.length cp).ownBlock := fun e => by have := rO2.1 _ e.symm; omega
          have hne0 : some w.heap.size ≠ (Value.slice A l.length cp).ownBlock := fun e => by have := rO2.1 _ e.symm; omega
          have hneh : some w1.heap.size ≠ (Value.slice A l.length cp).ownBlock := fun e => by have := ((Kd.R_bound rO1).1 _ e.symm).2.2.1; omega
          have t1 : (h.1 + h.2.1).toNat ≤ s.size - p := by omega
          have t0 : 0 ≤ h.1 + h.2.1 := by omega
          have t2 : h.1 + h.2.1 ≤ ((s.size - p : Nat) : Int) := by omega
          have t3 : IntKind.i64.wrap (h.1 + h.2.1) = h.1 + h.2.1 := IntWalk.i64_in _ (by omega)
          have hlen : (l.length + 1) * 16 ≤ 140737488355328 := by omega
          go_region_law (go_loud (refine Kd.R_append_step Kd.string (w0 := w) (W := w2.drew) w.heap.size (by rfl) (.tmp 34) (.tmp 42) 29 9 (.string ⟨#[]⟩) 16 (by rfl) Try.underlying29 info_str (by rfl) (by decide) (by decide) (.slice A l.length cp) l ((s.extract p s.size).extract 0 (h.1 + h.2.1).toNat) [.string ((s.extract p s.size).extract 0 (h.1 + h.2.1).toNat)] (fun k => w.heap.size + 2 ≤ k) (fun _ => False) (by simp [Act.eval, Act.put]) (by simp [Act.eval, Act.put]) (by rfl) (fun _ h => h.elim) (fun k hk => by have hk := hk; simp at hk; omega) (by exact rO2) (by exact rB2.drew) (by simp; omega) hlen ?_; intro v1 w3 hR3 hb3 hg3 hat3; obtain ⟨A3, cp3, rfl⟩ := Kd.R_slice hR3; have rC3 : At w3 (w.heap.size + 1) 39 #[.slice A l.length cp, .int .i64 p, .int .i64 0] := (hg3.block _ (by simp; omega) hne).trans (by exact rC2); have s0 := (rC3.cell 0).trans rfl; have s1 := rC3.free 0))
          all_goals
            have rZ3 : At w3 w.heap.size 39 #[.slice none 0 0, .int .i64 0, .int .i64 0] := (hg3.block _ (by simp; omega) hne0).trans (by exact rZ2)
            have rH3 : At w3 w1.heap.size 46 #[.int .i64 h.1, .int .i64 h.2.1, .int .i64 0] := (hg3.block _ (by simp; omega) hneh).trans (by exact k2)
            have rC4 : At (w3.setCell ⟨w.heap.size + 1, 0, none⟩ (.slice A3 (l.length + 1) cp3)) (w.heap.size + 1) 39 #[.slice A3 (l.length + 1) cp3, .int .i64 p, .int .i64 0] := rC3.set 0 _
            have rZ4 := rZ3.far (p := ⟨w.heap.size + 1, 0, none⟩) (by simp) (.slice A3 (l.length + 1) cp3)
            have rH4 := rH3.far (p := ⟨w.heap.size + 1, 0, none⟩) (by have := rC1.lt; simp; omega) (.slice A3 (l.length + 1) cp3)
            have rO4 : Kd.R Kd.string 9 (w3.setCell ⟨w.heap.size + 1, 0, none⟩ (.slice A3 (l.length + 1) cp3)) w.heap.size (fun k => w.heap.size + 2 ≤ k) (.slice A3 (l.length + 1) cp3) (l ++ [(s.extract p s.size).extract 0 (h.1 + h.2.1).toNat]) :=
              Kd.R_far (by simpa using hR3) (fun k hk => by simp; omega) _
            have rB4 := hb3.setCell (p := ⟨w.heap.size + 1, 0, none⟩) (by simp) (.slice A3 (l.length + 1) cp3)
            clear rC1 rZ1 rO1 rB1 rC2 rZ2 rO2 rB2 k2 hzz rC3 rZ3 rH3 hR3 hb3 hg3 hat3 s0 s1 c0 c1 c2 f0 f1 f2 l1 z0 z1 z2 y0 y1 y2 l0 h0 h1 h2 hne hne0 hneh
            generalize w3.setCell ⟨w.heap.size + 1, 0, none⟩ (.slice A3 (l.length + 1) cp3) = W4 at rC4 rZ4 rH4 rO4 rB4 ⊢
            have c1 := (rC4.cell 1).trans rfl
            have f1 := rC4.free 1
            have h0 := (rH4.cell 0).trans rfl
            have h1 := (rH4.cell 1).trans rfl
            have e5 : wrap64 ((p : Int) + (h.1 + h.2.1)) = p + (h.1 + h.2.1) := by unfold wrap64; omega
            go_wp2
            have rC5 : At (W4.setCell ⟨w.heap.size + 1, 1, none⟩ (.int .i64 ((p : Int) + (h.1 + h.2.1)))) (w.heap.size + 1) 39 #[.slice A3 (l.length + 1) cp3, .int .i64 ((p : Int) + (h.1 + h.2.1)), .int .i64 0] := rC4.set 1 _
            have hce := HS2.out
            rw [if_neg (show ¬ 0 < m by omega)] at hce
            have HE := Lib.hid hce
            clear hce
            have ep : ((p + (h.1 + h.2.1).toNat : Nat) : Int) = p + (h.1 + h.2.1) := by omega
            have cN := (rC5.cell 1).trans rfl
            go_roundw
            case rel =>
              refine ⟨p + (h.1 + h.2.1).toNat, l ++ [(s.extract p s.size).extract 0 (h.1 + h.2.1).toNat], .slice A3 (l.length + 1) cp3, by omega, by simp; omega, ?_, ?_, rZ4.far (by simp) _, Kd.R_far rO4 (fun k hk => by simp; omega) _, rB4.setCell (by simp) _⟩
              · unfold Hid
                rw [HR.out, HE.out]
                simp
              · rw [ep]
                exact rC5
            case measure =>
              rw [cN, HC1.out]
              simp [intOf]
              omega
      · have heb : (h.2.2 != 0) = true := by simp [he]
        go_wp2_with fail
        have hce := HS.out
        rw [if_pos he] at hce
        have HE := Lib.hid hce
        clear hce
        refine bodyPost_ret (v := .agg #[.slice A l.length cp, .int .i64 p, .int .i64 h.2.2]) ?_ rfl ⟨.slice A l.length cp, ?_, ?_, ?_⟩
        · simp [results, Try.results8, go_sem, z0, z1, z2, l0]
        · rw [HR.out, HE.out]
        · rw [HR.out, HE.out]
          simp only [List.append_nil]
          refine Kd.R_mono (ok := fun k => w.heap.size + 2 ≤ k) ?_ (fun _ _ => trivial)
          exact Kd.R_below (Kd.R_far (Kd.R_far (Kd.R_far (Kd.R_far rO1 (fun k hk => by simp; omega) _) (fun k hk => by simp; omega) _) (fun k hk => by simp; omega) _) (fun k hk => by simp; omega) _) ((Below.refl _ _).alloc (Nat.le_refl _) _)
        · exact ((((rB1.setCell (by simp) _).setCell (by simp) _).setCell (by simp) _).setCell (by simp) _).alloc (by simp; omega) _
    · have rO1 := rO
      have z0 := (rZ.cell 0).trans rfl
      have z1 := (rZ.cell 1).trans rfl
      have z2 := (rZ.cell 2).trans rfl
      have y0 := rZ.free 0
      have y1 := rZ.free 1
      have y2 := rZ.free 2
      have l0 := rZ.lt
      have c2 := (rC.cell 2).trans rfl
      go_wp2_with fail
      have hce := cutAt_end (limit := limit) (s := s) (p := p) (by omega)
      have HE := Lib.hid hce
      clear hce
      refine bodyPost_ret (v := .agg #[.slice A l.length cp, .int .i64 p, .int .i64 0]) ?_ rfl ⟨.slice A l.length cp, ?_, ?_, ?_⟩
      · simp [results, Try.results8, go_sem, z0, z1, z2]
      · rw [HR.out, HE.out]
      · rw [HR.out, HE.out]
        simp only [List.append_nil]
        exact Kd.R_mono (Kd.R_far (Kd.R_far (Kd.R_far rO (fun k hk => by simp; omega) _) (fun k hk => by simp; omega) _) (fun k hk => by simp; omega) _) (fun _ _ => trivial)
      · exact ((rB.setCell (by simp) _).setCell (by simp) _).setCell (by simp) _
end Go.Proofs.Ytgihlldkdbjkkaa.W
