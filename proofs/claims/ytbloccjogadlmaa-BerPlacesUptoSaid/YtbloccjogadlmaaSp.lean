/- Walk of ber.Split: the elements that stand one behind the other, or the first fault and its place. -/
import Derived.Test.YtbloccjogadlmaaMa
import Derived.Test.YtbloccjogadlmaaBCa
import Derived.Deep.AppendLies
import Derived.Deep.RegionHeld3
import Derived.Deep.RegionLaw
import Derived.BigRegion
import Derived.Deep.QuietTactic
import Derived.Test.YtbloccjogadlmaaWLast
import Derived.Test.YtbloccjogadlmaaWTab
import Derived.BigQuiet
namespace Go.Proofs.Ytbloccjogadlmaa.W
open Go.RowKit Go.Proofs.YtbloccjogadlmaaW.PrintWords Go.Proofs.YtbloccjogadlmaaW.PrintLast
set_option linter.unusedVariables false
set_option linter.unusedSimpArgs false

theorem infoElem : (Try.prog.info? 71).map (fun i => (i.zero, i.size, i.bytes)) = some (some (.agg #[.int .i64 0, .bool false, .int .i64 0, .string ⟨#[]⟩]), 4, 40) := by kernel_rfl

/-- What the reader of Split leaves: the list so far. -/
def SplitMem (w : World) (base go : Nat) (l : List ElemT) (w1 : World) : Prop :=
  ∃ v, At w1 go 46 #[v] ∧ Kd.R kElem 71 w1 base (fun _ => True) v l ∧ w.grownBy w1 (some go)
def optErr : Option (Int × Int) → Ending
  | none => .returned (.tuple #[])
  | some (c, q) => .panicked [{ v := .iface 59 (.agg #[.int .i64 c, .int .i64 q]), recovered := false }]

set_option maxRecDepth 100000 in
set_option maxHeartbeats 4000000 in
theorem SplitC_any (gb gs go : Nat) (s : ByteArray) (w : World) (hs : s.size ≤ 4194304) (aB : At w gb 9 #[.string s]) (aS : At w gs 57 #[.string s, .slice none 0 0]) (aO : At w go 46 #[.slice none 0 0]) :
    Calls Try.prog 28 #[.pointer (some ⟨gb, 0, none⟩), .pointer (some ⟨gs, 0, none⟩), .pointer (some ⟨go, 0, none⟩)] w fun en w1 => en = optErr (splitAt_ s 0).2 ∧ SplitMem w w.heap.size go (splitAt_ s 0).1 w1 := by
  obtain ⟨i0, hi, hz0, hz1, hz2⟩ := info_parts infoElem
  obtain ⟨out, hout⟩ : ∃ out, out = splitAt_ s 0 := ⟨_, rfl⟩
  rw [← hout]
  have HO := Lib.hid hout
  clear hout
  have hbg : gb ≠ go := aB.ne aO (by decide)
  have hsg : gs ≠ go := aS.ne aO (by decide)
  go_enter Try.func28, Try.ntmps28
  go_wp2_with fail
  go_loopw [3] (fun x wr => ∃ (p : Int) (l : List ElemT) (v : Value), x = .int .i64 p ∧ 0 ≤ p ∧ p ≤ (s.size : Int) ∧ 2 * (l.length : Int) ≤ p ∧ Hid (out = (l ++ (splitAt_ s p).1, (splitAt_ s p).2)) ∧
      At wr go 46 #[v] ∧ Kd.R kElem 71 wr w.heap.size (fun _ => True) v l ∧ w.grownBy wr (some go))
    (fun x _ => s.size - (intOf x).toNat)
  case atStart => exact ⟨0, [], _, rfl, by omega, by omega, by simp, by unfold Hid; rw [HO.out]; simp, aO, Kd.R_nil _ _ _ _ _, grown_refl _ _⟩
  case round =>
    obtain ⟨p, l, v, rfl, h0, hp, hl, HR, rO, rR, rG⟩ := hrel
    obtain ⟨A, cp, rfl⟩ := Kd.R_slice rR
    have rB := aB.kept rG hbg
    have rS := aS.kept rG hsg
    have b0 := (rB.cell 0).trans rfl
    have lS := rS.lt
    have zW : w.heap.size ≤ wr.heap.size := rG.size
    by_cases hpe : p < (s.size : Int)
    · cases hb : bnd s p s.size 1 with
      | error x =>
        obtain ⟨c, q⟩ := x
        have hst := splitAt_err h0 hpe hb
        have HS := Lib.hid hst
        have HB := Lib.hid hb
        clear hst hb
        go_wp2_with fail
        refine (bound_err gs s p s.size 1 _ h0 (by omega) (by omega) ((rS.cell 0).trans rfl) lS HB.out).mono ?_
        rintro en w2 ⟨rfl, b1⟩
        refine ⟨rfl, ?_⟩
        rw [HR.out, HS.out]
        exact ⟨rfl, _, rO.below b1 rO.lt, by simpa using Kd.R_below rR b1, ⟨b1.os.trans rG.os, b1.tape.trans rG.tape, b1.output.trans rG.output, by have := b1.size; omega, fun i hi hne => (b1.block i (by omega)).trans (rG.block i hi hne)⟩⟩
      | ok k =>
        have hst := splitAt_ok h0 hpe hb
        obtain ⟨hb1, hb2⟩ := bnd_ok hb
        obtain ⟨-, -, k3, k4, k5, k6, -⟩ := hdr_ok hb1
        clear hb1
        have HS := Lib.hid hst
        have HB := Lib.hid hb
        clear hst hb
        go_wp2_with fail
        refine (bound_ok gs s p s.size 1 _ h0 (by omega) (by omega) ((rS.cell 0).trans rfl) lS HB.out).mono ?_
        rintro en w2 ⟨rfl, b1⟩
        have lB := rB.lt
        have lO := rO.lt
        have rB1 := rB.below b1 lB
        have rO1 := rO.below b1 lO
        have rR1 := Kd.R_below rR b1
        have rG1 : w.grownBy w2 (some go) := ⟨b1.os.trans rG.os, b1.tape.trans rG.tape, b1.output.trans rG.output, by have := b1.size; omega, fun i hi hne => (b1.block i (by omega)).trans (rG.block i hi hne)⟩
        have z1 : w.heap.size ≤ w2.heap.size := rG1.size
        clear rB rO rR b0 rS lS
        go_wp2_with fail
        refine gen1 (G := fun W => Code.wp _ _ _ _ W) fun W hB hz k1 => ?_
        have lB1 := rB1.lt
        have lO1 := rO1.lt
        have rB2 := rB1.below hB lB1
        have rO2 := rO1.below hB lO1
        have rR2 := Kd.R_below rR1 hB
        have rG2 : w.grownBy W (some go) := ⟨hB.os.trans rG1.os, hB.tape.trans rG1.tape, hB.output.trans rG1.output, by have := hB.size; omega, fun i hi hne => (hB.block i (by omega)).trans (rG1.block i hi hne)⟩
        have c0 := (k1.cell 0).trans rfl
        have c1 := (k1.cell 1).trans rfl
        have c2 := (k1.cell 2).trans rfl
        have c3 := (k1.cell 3).trans rfl
        have c4 := (k1.cell 4).trans rfl
        clear rB1 rO1 rR1 rG1 rG hB
        go_wp2_with fail
        have q0 : 0 ≤ p + k.size := by omega
        have q1 : p + k.size ≤ p + k.size + k.len := by omega
        have q2 : p + k.size + k.len ≤ (s.size : Int) := by omega
        have q3 : 0 ≤ p + k.size + k.len := by omega
        have hne : some go ≠ (Value.slice A l.length cp).ownBlock := Kd.R_ne rR2 rO2 (by decide)
        have hneh : some w2.heap.size ≠ (Value.slice A l.length cp).ownBlock := Kd.R_ne rR2 k1 (by decide)
        have hneb : some gb ≠ (Value.slice A l.length cp).ownBlock := Kd.R_ne rR2 rB2 (by decide)
        have hlen : (l.length + 1) * 40 ≤ 140737488355328 := by omega
        have hzW : w.heap.size ≤ W.heap.size := rG2.size
        clear hz c0 c1 c2 c3 c4
        refine start_ (n := 15) (S := fun V => V.cell? ⟨go, 0, none⟩ = some (.slice A l.length cp) ∧ V.cell? ⟨w2.heap.size, 0, none⟩ = some (.int .i64 k.cls) ∧ V.cell? ⟨w2.heap.size, 1, none⟩ = some (.bool k.made) ∧ V.cell? ⟨w2.heap.size, 2, none⟩ = some (.int .i64 k.tag) ∧ V.cell? ⟨gb, 0, none⟩ = some (.string s)) (ds := [14]) #[false, false, false, false, false, false, false, false, false, false, false, false, false, false, false] (by kernel_rfl) rfl rfl ⟨(rO2.drew.cell 0).trans rfl, (k1.drew.cell 0).trans rfl, (k1.drew.cell 1).trans rfl, (k1.drew.cell 2).trans rfl, (rB2.drew.cell 0).trans rfl⟩ (fun hHeld => ?_)
        refine pure_ (i := 1) (N := some 23) (v := ?_) (a' := ?_) #[false, true, false, false, false, false, false, false, false, false, false, false, false, false, false] rfl rfl (by kernel_rfl) (fun _ _ _ h => h) (Or.inl ⟨by rfl, ?_⟩) ?_ ?_
        rotate_left
        · intro w'
          go_simp
          with_reducible rfl
        rotate_left
        · simp only [Act.put, List.setIfInBounds_toArray, List.set_cons_zero, List.set_cons_succ, i64_w, i32_w]
          rfl
        refine pure_ (i := 3) (N := some 25) (v := ?_) (a' := ?_) #[false, true, false, true, false, false, false, false, false, false, false, false, false, false, false] rfl rfl (by kernel_rfl) (fun _ _ _ h => h) (Or.inl ⟨by rfl, ?_⟩) ?_ ?_
        rotate_left
        · intro w'
          go_simp
          with_reducible rfl
        rotate_left
        · simp only [Act.put, List.setIfInBounds_toArray, List.set_cons_zero, List.set_cons_succ, i64_w, i32_w]
          rfl
        refine pure_ (i := 5) (N := some 27) (v := ?_) (a' := ?_) #[false, true, false, true, false, true, false, false, false, false, false, false, false, false, false] rfl rfl (by kernel_rfl) (fun _ _ _ h => h) (Or.inl ⟨by rfl, ?_⟩) ?_ ?_
        rotate_left
        · intro w'
          go_simp
          with_reducible rfl
        rotate_left
        · simp only [Act.put, List.setIfInBounds_toArray, List.set_cons_zero, List.set_cons_succ, i64_w, i32_w]
          rfl
        refine pure_ (i := 8) (N := some 30) (v := ?_) (a' := ?_) #[false, true, false, true, false, true, false, false, true, false, false, false, false, false, false] rfl rfl (by kernel_rfl) (fun _ _ _ h => h) (Or.inl ⟨by rfl, ?_⟩) ?_ ?_
        rotate_left
        · intro w'
          go_simp
          with_reducible rfl
        rotate_left
        · simp only [Act.put, List.setIfInBounds_toArray, List.set_cons_zero, List.set_cons_succ, i64_w, i32_w]
          rfl
        refine pure_ (i := 9) (N := some 31) (v := ?_) (a' := ?_) #[false, true, false, true, false, true, false, false, true, true, false, false, false, false, false] rfl rfl (by kernel_rfl) (fun _ _ _ h => h) (Or.inl ⟨by rfl, ?_⟩) ?_ ?_
        rotate_left
        · intro w'
          go_simp
          with_reducible rfl
        rotate_left
        · simp only [Act.put, List.setIfInBounds_toArray, List.set_cons_zero, List.set_cons_succ, i64_w, i32_w]
          rfl
        refine take_ (i := 0) (N := some 22) (v := ?_) (a' := ?_) #[true, true, false, true, false, true, false, false, true, true, false, false, false, false, false] rfl rfl (by kernel_rfl) (fun _ _ _ h => h) (Or.inl ⟨by rfl, ?_⟩) hHeld ?_ ?_
        rotate_left
        · rintro w' ⟨s0, s1, s2, s3, s4⟩
          go_simp
          with_reducible rfl
        rotate_left
        · simp only [Act.put, List.setIfInBounds_toArray, List.set_cons_zero, List.set_cons_succ, i64_w, i32_w]
          rfl
        refine take_ (i := 2) (N := some 24) (v := ?_) (a' := ?_) #[true, true, true, true, false, true, false, false, true, true, false, false, false, false, false] rfl rfl (by kernel_rfl) (fun _ _ _ h => h) (Or.inl ⟨by rfl, ?_⟩) hHeld ?_ ?_
        rotate_left
        · rintro w' ⟨s0, s1, s2, s3, s4⟩
          go_simp
          with_reducible rfl
        rotate_left
        · simp only [Act.put, List.setIfInBounds_toArray, List.set_cons_zero, List.set_cons_succ, i64_w, i32_w]
          rfl
        refine take_ (i := 4) (N := some 26) (v := ?_) (a' := ?_) #[true, true, true, true, true, true, false, false, true, true, false, false, false, false, false] rfl rfl (by kernel_rfl) (fun _ _ _ h => h) (Or.inl ⟨by rfl, ?_⟩) hHeld ?_ ?_
        rotate_left
        · rintro w' ⟨s0, s1, s2, s3, s4⟩
          go_simp
          with_reducible rfl
        rotate_left
        · simp only [Act.put, List.setIfInBounds_toArray, List.set_cons_zero, List.set_cons_succ, i64_w, i32_w]
          rfl
        refine take_ (i := 6) (N := some 28) (v := ?_) (a' := ?_) #[true, true, true, true, true, true, true, false, true, true, false, false, false, false, false] rfl rfl (by kernel_rfl) (fun _ _ _ h => h) (Or.inl ⟨by rfl, ?_⟩) hHeld ?_ ?_
        rotate_left
        · rintro w' ⟨s0, s1, s2, s3, s4⟩
          go_simp
          with_reducible rfl
        rotate_left
        · simp only [Act.put, List.setIfInBounds_toArray, List.set_cons_zero, List.set_cons_succ, i64_w, i32_w]
          rfl
        refine take_ (i := 7) (N := some 29) (v := ?_) (a' := ?_) #[true, true, true, true, true, true, true, true, true, true, false, false, false, false, false] rfl rfl (by kernel_rfl) (fun _ _ _ h => h) (Or.inl ⟨by rfl, ?_⟩) hHeld ?_ ?_
        rotate_left
        · rintro w' ⟨s0, s1, s2, s3, s4⟩
          go_simp
          with_reducible rfl
        rotate_left
        · simp only [Act.put, List.setIfInBounds_toArray, List.set_cons_zero, List.set_cons_succ, i64_w, i32_w]
          rfl
        refine pure_ (i := 10) (N := some 32) (v := ?_) (a' := ?_) #[true, true, true, true, true, true, true, true, true, true, true, false, false, false, false] rfl rfl (by kernel_rfl) (fun _ _ _ h => h) (Or.inl ⟨by rfl, ?_⟩) ?_ ?_
        rotate_left
        · intro w'
          go_simp
          with_reducible rfl
        rotate_left
        · simp only [Act.put, List.setIfInBounds_toArray, List.set_cons_zero, List.set_cons_succ, i64_w, i32_w]
          rfl
        refine pure_ (i := 11) (N := some 33) (v := ?_) (a' := ?_) #[true, true, true, true, true, true, true, true, true, true, true, true, false, false, false] rfl rfl (by kernel_rfl) (fun _ _ _ h => h) (Or.inl ⟨by rfl, ?_⟩) ?_ ?_
        rotate_left
        · intro w'
          go_simp
          with_reducible rfl
        rotate_left
        · simp only [Act.put, List.setIfInBounds_toArray, List.set_cons_zero, List.set_cons_succ, i64_w, i32_w]
          rfl
        refine one_ (i := 12) (N := some 34) #[true, true, true, true, true, true, true, true, true, true, true, true, true, false, false] rfl rfl (by kernel_rfl) (by decide) (fun K hK => ?_)
        refine value_ (w1 := ?_) (v := ?_) (by rfl) rfl ?_ ?_
        rotate_left 2
        · go_simp
          constructor
          · rfl
          · rfl
        refine hK.out _ _ ⟨((rO2.drew.alloc _).cell 0).trans rfl, ((k1.drew.alloc _).cell 0).trans rfl, ((k1.drew.alloc _).cell 1).trans rfl, ((k1.drew.alloc _).cell 2).trans rfl, ((rB2.drew.alloc _).cell 0).trans rfl⟩ (fun hHeld => ?_)
        clear hK K
        refine norm_ (a' := ?_) ?_ ?_
        rotate_left
        · show Act.put _ (some 34) _ = _
          simp only [Act.put, List.setIfInBounds_toArray, List.set_cons_zero, List.set_cons_succ, i64_w, i32_w]
          rfl
        refine one_ (i := 13) (N := some 35) #[true, true, true, true, true, true, true, true, true, true, true, true, true, true, false] rfl rfl (by kernel_rfl) (by decide) (fun K hK => ?_)
        refine Kd.R_append_step kElem (w0 := W.drew) (W := W.drew) w.heap.size (by rfl) (.tmp 22) (.tmp 34) 46 71 _ 40 rfl Try.underlying46 infoElem rfl (by decide) (by decide) (.slice A l.length cp) l (k.cls, k.made, k.tag, s.extract (p + k.size).toNat (p + k.size + k.len).toNat) [.int .i64 k.cls, .bool k.made, .int .i64 k.tag, .string (s.extract (p + k.size).toNat (p + k.size + k.len).toNat)] (fun _ => True) (fun _ => False) rfl rfl (kElem_mkM _ _ _ _) (fun _ h => h.elim) (fun _ _ => trivial) (Kd.R_drew rR2) (Below.refl _ _) hzW hlen ?_
        intro v1 w3 hR3 hb3 hg3 hat3
        obtain ⟨A3, cp3, rfl⟩ := Kd.R_slice hR3
        have rO3 : At w3 go 46 #[.slice A l.length cp] := (hg3.block _ (show go < W.heap.size from rO2.lt) hne).trans rO2
        have rB3 : At w3 gb 9 #[.string s] := (hg3.block _ (show gb < W.heap.size from rB2.lt) hneb).trans rB2
        have k3 : At w3 w2.heap.size 29 #[.int .i64 k.cls, .bool k.made, .int .i64 k.tag, .int .i64 k.len, .int .i64 k.size] := (hg3.block _ (show w2.heap.size < W.heap.size from k1.lt) hneh).trans k1
        refine hK.out _ _ ⟨(rO3.cell 0).trans rfl, (k3.cell 0).trans rfl, (k3.cell 1).trans rfl, (k3.cell 2).trans rfl, (rB3.cell 0).trans rfl⟩ (fun hHeld => ?_)
        clear hK K
        refine norm_ (a' := ?_) ?_ ?_
        rotate_left
        · show Act.put _ (some 35) _ = _
          simp only [Act.put, List.setIfInBounds_toArray, List.set_cons_zero, List.set_cons_succ, i64_w, i32_w]
          rfl
        refine last_ (i := 14) (N := none) #[true, true, true, true, true, true, true, true, true, true, true, true, true, true, true] rfl rfl (by kernel_rfl) (by decide) (fun K hK => ?_)
        have s0 := (rO3.cell 0).trans rfl
        have s1 := rO3.free 0
        refine skip_ (w1 := ?_) (by rfl) rfl ?_ ?_
        rotate_left
        · go_simp
          rfl
        refine hK.out _ _ ?_
        clear hK K
        refine done_ (by kernel_rfl) ?_
        · have rO4 : At (w3.setCell ⟨go, 0, none⟩ (.slice A3 (l.length + 1) cp3)) go 46 #[.slice A3 (l.length + 1) cp3] := rO3.set 0 _
          have rR4 : Kd.R kElem 71 (w3.setCell ⟨go, 0, none⟩ (.slice A3 (l.length + 1) cp3)) w.heap.size (fun _ => True) (.slice A3 (l.length + 1) cp3) (l ++ [(k.cls, k.made, k.tag, s.extract (p + k.size).toNat (p + k.size + k.len).toNat)]) := by
            have h := Kd.R_set hR3 rO3 (by decide) 0 (.slice A3 (l.length + 1) cp3)
            simpa using h
          have rG4 : w.grownBy (w3.setCell ⟨go, 0, none⟩ (.slice A3 (l.length + 1) cp3)) (some go) :=
            grown_set ⟨hb3.os.trans rG2.os, hb3.tape.trans rG2.tape, hb3.output.trans rG2.output, by have z9 : W.heap.size ≤ w3.heap.size := hb3.size; omega, fun i hi hn => (hb3.block i hi).trans (rG2.block i hi hn)⟩ 0 _
          clear hR3 hb3 hg3 hat3 rO3 s0 s1 k1 rB2 rO2 rR2 rG2 hne hneh hneb hHeld rB3 k3
          generalize w3.setCell ⟨go, 0, none⟩ (.slice A3 (l.length + 1) cp3) = W4 at rO4 rR4 rG4 ⊢
          go_wp2
          go_roundw
          case rel =>
            refine ⟨p + k.size + k.len, _, _, rfl, by omega, by omega, ?_, ?_, rO4, rR4, rG4⟩
            · rw [List.length_append, List.length_singleton]; omega
            · unfold Hid
              rw [HR.out, HS.out]
              simp
          case measure => simp [intOf]; omega
    · have hst := splitAt_end h0 (show (s.size : Int) ≤ p by omega)
      have HS := Lib.hid hst
      clear hst
      go_wp2
      go_end0
      rw [HR.out, HS.out]
      exact ⟨rfl, _, rO, by simpa using rR, rG⟩

/-- WHAT Split ANSWERS. -/
theorem Split_any (s : ByteArray) (w : World) (hs : s.size ≤ 4194304) :
    Calls Try.prog 16 #[.string s] w fun en w' => ∃ v0_ : Value, en = .returned (.tuple #[v0_, .int .i64 (splitS s).2.1, .int .i64 (splitS s).2.2]) ∧ Kd.R kElem 71 w' w.heap.size (fun _ => True) v0_ (splitS s).1 ∧ Below w.heap.size w w' := by
  have hmf : ∀ (fn : Fn) (first cap : Array Value) (w : World), (Instr.makeFunc fn first cap).run Try.prog w = .ok (.func fn first cap) w := fun _ _ _ _ => rfl
  obtain ⟨l, r, hlr⟩ : ∃ l r, splitAt_ s 0 = (l, r) := ⟨_, _, rfl⟩
  obtain ⟨sp, hsp⟩ : ∃ sp, splitS s = sp := ⟨_, rfl⟩
  have hsp2 : sp = splitR (l, r) := by rw [← hsp]; unfold splitS; rw [hlr]
  have HC : ∀ (W : World) (B gb gs go : Nat), At W gb 9 #[.string s] → At W gs 57 #[.string s, .slice none 0 0] → At W go 46 #[.slice none 0 0] → At W B 59 #[.int .i64 0, .int .i64 0] →
      Calls Try.prog 28 #[.pointer (some ⟨gb, 0, none⟩), .pointer (some ⟨gs, 0, none⟩), .pointer (some ⟨go, 0, none⟩)] W (RunEnd r B fun w1 => SplitMem W W.heap.size go l w1) := by
    intro W B gb gs go a1 a2 a3 a4
    refine (SplitC_any gb gs go s W hs a1 a2 a3).mono ?_
    rintro en w1 ⟨h1, v, h2, h3, h4⟩
    rw [hlr] at h1 h3
    refine ⟨?_, a4.kept h4 (a4.ne a3 (by decide)), v, h2, h3, h4⟩
    subst h1
    cases r with
    | none => rfl
    | some x => obtain ⟨c, q⟩ := x; rfl
  rw [hsp]
  have HCE : Hid (∀ c q, r = some (c, q) → 20 ≤ c ∧ c ≤ 26) := fun c q h => splitN_err (s := s) _ 0 (by have := hlr; unfold splitAt_ at this; rw [this]; exact h)
  have HSP := Lib.hid hsp2
  have HC := Lib.hid HC
  clear hsp hsp2 hlr
  go_enter Try.func16, Try.ntmps16
  go_wp2_with fail
  refine gen3 (G := fun W => Calls _ _ _ W _) fun W hB hz k1 k2 k3 => ?_
  have aF := At.new W 59 #[.int .i64 0, .int .i64 0]
  refine (caught_SplitC _ _ r _ (HC.out _ _ _ _ _ (k1.alloc _) (k2.alloc _) (k3.alloc _) aF)).mono ?_
  rintro en w2 ⟨rfl, w1, ⟨v, m1, m2, m3⟩, hg⟩
  obtain ⟨A, cp, rfl⟩ := Kd.R_slice m2
  have z1 : w.heap.size + 1 + 1 < W.heap.size := by omega
  have zw : W.heap.size + 1 ≤ w1.heap.size := by have := m3.size; simpa using this
  have n3 := m1.kept hg (by omega)
  have B2 : Below w.heap.size w w2 := below_kept (below_kept (hB.alloc (by omega) _) m3 (by simp; omega) (by omega)) hg (by omega) (by omega)
  have R2 : Kd.R kElem 71 w2 w.heap.size (fun _ => True) (.slice A l.length cp) l := by
    have h := Kd.R_bound m2
    have h2 := Kd.R_grown h hg (fun k hk e => by have := hk.2.1; simp at this; injection e with e; omega)
    exact Kd.R_mono (Kd.R_lower h2 (by simp; omega)) (fun _ _ => trivial)
  have hz2 : w.heap.size ≤ w2.heap.size := B2.size
  clear m1 m2 m3 hg k1 k2 k3 aF hB HC hz zw
  have z2 := n3.lt
  have c0 := (n3.cell 0).trans rfl
  have N3 := Lib.hid n3
  clear n3
  cases r with
  | none =>
    have e1 : errOf none = 0 := rfl
    go_wp2_with fail
    refine bodyPost_ret (v := .tuple #[.slice A l.length cp, .int .i64 0, .int .i64 0]) ?_ rfl ⟨.slice A l.length cp, ?_, ?_, ?_⟩
    · simp [results, Try.results16]
    · rw [HSP.out]; rfl
    · rw [HSP.out]
      exact Kd.R_alloc R2 _
    · exact B2.alloc hz2 _
  | some x =>
    obtain ⟨c, q⟩ := x
    have hc : (c != 0) = true := by have := HCE.out c q rfl; simp; omega
    have e1 : errOf (some (c, q)) = c := rfl
    have e2 : atOf (some (c, q)) = q := rfl
    go_wp2_with fail
    go_region
    go_wp2
    refine bodyPost_ret (v := .tuple #[.slice none 0 0, .int .i64 c, .int .i64 q]) ?_ rfl ⟨.slice none 0 0, ?_, ?_, ?_⟩
    · simp [results, Try.results16, e1, e2]
    · rw [HSP.out]; rfl
    · rw [HSP.out]
      exact Kd.R_nil _ _ _ _ _
    · exact (B2.alloc hz2 _).drew
end Go.Proofs.Ytbloccjogadlmaa.W
