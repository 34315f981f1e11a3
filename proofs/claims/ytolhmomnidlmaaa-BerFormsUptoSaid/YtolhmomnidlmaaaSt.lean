/- Walk of the statements' own spelt: a tree's bytes with each length in the form that is asked for. -/
import Derived.Test.YtolhmomnidlmaaaSl
namespace Go.Proofs.Ytolhmomnidlmaaa.W
open Go.RowKit Go.Proofs.YtolhmomnidlmaaaW.PrintWords Go.Proofs.YtolhmomnidlmaaaW.PrintLast
set_option linter.unusedVariables false
set_option linter.unusedSimpArgs false

/-- The sums, as cells. -/
def arr66 (S : Nat → Int) : Array Value := ((List.range 66).map fun d => Value.int .i64 (S d)).toArray
theorem arr66_get (S : Nat → Int) (d : Nat) (h : d < 66) : (arr66 S)[d]? = some (.int .i64 (S d)) := by
  unfold arr66
  simp [h]
theorem arr66_set (S : Nat → Int) (d : Nat) (v : Int) : (arr66 S).setIfInBounds d (.int .i64 v) = arr66 (fun x => if x = d then v else S x) := by
  unfold arr66
  apply Array.ext
  · simp
  · intro i h1 h2
    simp at h1 h2
    simp only [List.setIfInBounds_toArray, List.getElem_toArray]
    rw [List.getElem_set]
    by_cases h : d = i
    · subst h
      simp
    · rw [if_neg h]
      simp only [List.getElem_map, List.getElem_range]
      rw [if_neg (fun e => h e.symm)]
/-- The headers, as cells: those from node i on are laid. -/
def hedA (phi : Nat → Int → Nat) (xs : List NodeT) (i : Nat) : Array Value := ((List.range xs.length).map fun j => Value.string (if i ≤ j then hedS phi xs j else ⟨#[]⟩)).toArray
theorem hedA_get (phi : Nat → Int → Nat) (xs : List NodeT) (i j : Nat) (h : j < xs.length) : (hedA phi xs i)[j]? = some (.string (if i ≤ j then hedS phi xs j else ⟨#[]⟩)) := by
  unfold hedA
  simp [h]
theorem hedA_set (phi : Nat → Int → Nat) (xs : List NodeT) (i : Nat) : (hedA phi xs (i + 1)).setIfInBounds i (.string (hedS phi xs i)) = hedA phi xs i := by
  unfold hedA
  apply Array.ext
  · simp
  · intro j h1 h2
    simp at h1 h2
    simp only [List.setIfInBounds_toArray, List.getElem_toArray]
    rw [List.getElem_set]
    by_cases h : i = j
    · subst h
      simp
    · rw [if_neg h]
      simp only [List.getElem_map, List.getElem_range]
      by_cases h3 : i ≤ j
      · rw [if_pos h3, if_pos (by omega)]
      · rw [if_neg h3, if_neg (by omega)]
theorem hedA_start (phi : Nat → Int → Nat) (xs : List NodeT) : madeCells #[.string ⟨#[]⟩] xs.length = hedA phi xs xs.length := by
  unfold hedA madeCells
  apply Array.ext
  · simp
  · intro j h1 h2
    simp at h1 h2
    simp only [List.getElem_toArray, List.getElem_map, List.getElem_range]
    rw [if_neg (by omega)]
    have e : j % 1 = 0 := Nat.mod_one j
    simp [h1, e]
theorem arr66_zero : Try.zeroCells97 = arr66 (sums (fun _ _ => 0) [] 0) := by rfl
theorem infoStr9 : (Try.prog.info? 9).map (fun i => (i.zero, i.size, i.bytes)) = some (some (.string ⟨#[]⟩), 1, 16) := by kernel_rfl
/-- Did all lengths behind (m nodes done) come out in the shortest form? -/
def wider (forms : List Int) (i : Nat) (n : Int) : Bool := decide (i < forms.length ∧ (wideK n : Int) < forms.getD i 0 ∧ forms.getD i 0 ≤ 4)
def shB (forms : List Int) (xs : List NodeT) : Nat → Bool
  | 0 => true
  | m + 1 => shB forms xs m && !(wider forms (xs.length - (m + 1)) (lenS xs (xs.length - (m + 1)) (sums (phiF forms) xs m)))
theorem phiF_le (forms : List Int) (i : Nat) (n : Int) : phiF forms i n ≤ 4 := by
  unfold phiF
  split
  · omega
  · unfold wideK
    repeat' split
    all_goals omega
theorem hed_size (phi : Nat → Int → Nat) (xs : List NodeT) (hphi : ∀ i n, phi i n ≤ 4) (i : Nat) : (hedS phi xs i).size ≤ 6 := by
  have h := headS_size (nd xs i).2.1 (nd xs i).2.2.1 (nd xs i).2.2.2.1 (lenS xs i (sums phi xs (xs.length - (i + 1)))) (phi i (lenS xs i (sums phi xs (xs.length - (i + 1)))))
  have h2 := hsz_range _ (hphi i (lenS xs i (sums phi xs (xs.length - (i + 1)))))
  have h3 : (hedS phi xs i).size = (headS (nd xs i).2.1 (nd xs i).2.2.1 (nd xs i).2.2.2.1 (lenS xs i (sums phi xs (xs.length - (i + 1)))) (phi i (lenS xs i (sums phi xs (xs.length - (i + 1)))))).size := rfl
  omega
theorem cat_size (phi : Nat → Int → Nat) (xs : List NodeT) (hphi : ∀ i n, phi i n ≤ 4) : ∀ j, j ≤ xs.length → (catS phi xs j).size ≤ wt xs 0 j := by
  intro j
  induction j with
  | zero => intro _; exact Nat.zero_le _
  | succ j ih =>
    intro h
    have h1 := ih (by omega)
    have h2 := wt_one xs (show j < xs.length by omega)
    have h3 := wt_split xs (i := 0) (j := j) (k := j + 1) (by omega) (by omega)
    have h4 := hed_size phi xs hphi j
    rw [catS, ByteArray.size_append, ByteArray.size_append]
    omega
def lenN (nm : Bool) (a b : Int) : Int := if nm = true then a else b
def sumN (nm : Bool) (D : Nat) (S : Nat → Int) : Nat → Int := fun x => if nm = true ∧ x = D + 1 then 0 else S x
theorem sumN_true (D : Nat) (S : Nat → Int) : (arr66 S).setIfInBounds (D + 1) (.int .i64 0) = arr66 (sumN true D S) := by
  rw [arr66_set]
  congr 1
  funext x
  unfold sumN
  by_cases hx : x = D + 1
  · rw [if_pos hx, if_pos ⟨rfl, hx⟩]
  · rw [if_neg hx, if_neg (fun h => hx h.2)]
theorem sumN_false (D : Nat) (S : Nat → Int) : sumN false D S = S := by
  funext x
  unfold sumN
  rw [if_neg (fun h => Bool.false_ne_true h.1)]
set_option maxRecDepth 100000 in
set_option maxHeartbeats 4000000 in
theorem spelt_any (A : Option Addr) (c : Nat) (xs : List NodeT) (F : Option Addr) (cf : Nat) (forms : List Int) (w : World) (hC : Kd.C kNode w A xs.length xs) (hc : xs.length ≤ c) (hF : Kd.C (Kd.int .i64) w F forms.length forms) (hcf : forms.length ≤ cf)
    (hs : Snd xs) (h0 : 0 < xs.length) (hfew : xs.length ≤ 100000000) (hw : wt xs 0 xs.length ≤ 134217728) :
    Calls Try.prog 34 #[.slice A xs.length c, .slice F forms.length cf] w fun en w' => en = .returned (.tuple #[.string (catS (phiF forms) xs xs.length), .bool (shB forms xs xs.length)]) ∧ Below w.heap.size w w' := by
  obtain ⟨ad, rfl, -⟩ := node_at hC 0 h0
  have hmk : ∀ W : World, (Instr.makeSlice 96 (.int .i64 (xs.length : Int)) (.int .i64 (xs.length : Int))).run Try.prog W = .ok (.slice (some ⟨W.heap.size, 0, none⟩) xs.length xs.length) (W.alloc (.cells (hedA (phiF forms) xs xs.length) 9)) := by
    intro W
    obtain ⟨i, hi, hzz⟩ := Option.map_eq_some_iff.1 infoStr9
    simp only [Prod.mk.injEq] at hzz
    obtain ⟨hz, hsz1, hb⟩ := hzz
    have hr := run_make (P := Try.prog) W 96 9 i (.string ⟨#[]⟩) (by kernel_rfl) hi hz .i64 .i64 xs.length xs.length (by omega) (Int.le_refl _) (by rw [hb]; omega) (by omega)
    simp only [Int.toNat_natCast, hsz1, Nat.mul_one] at hr
    rw [hr, ← hedA_start]
    rfl
  have HS := Lib.hid hs
  have HC := Lib.hid hC
  have HF := Lib.hid hF
  clear hs hC hF
  go_enter Try.func34, Try.ntmps34
  go_wp2_with fail
  go_loopw [8, 9] (fun v i wr => ∃ k : Nat, k ≤ xs.length ∧ v = .bool (shB forms xs (xs.length - k)) ∧ i = .int .i64 ((k : Int) - 1) ∧ At wr w.heap.size 9 (hedA (phiF forms) xs k) ∧ At wr (w.heap.size + 1) 97 (arr66 (sums (phiF forms) xs (xs.length - k))) ∧ Below w.heap.size w wr)
    (fun _ i _ => (intOf i + 1).toNat)
  case atStart =>
    refine ⟨xs.length, Nat.le_refl _, ?_, rfl, ?_, ?_, ?_⟩
    · rw [Nat.sub_self]; rfl
    · exact (At.new w _ _).alloc _
    · rw [Nat.sub_self]
      have := At.new (w.alloc (.cells (hedA (phiF forms) xs xs.length) 9)) 97 Try.zeroCells97
      simp at this
      exact this
    · exact ((Below.refl _ _).alloc (Nat.le_refl _) _).alloc (by simp) _
  case round =>
    obtain ⟨k, hk, rfl, hi, rH, rS, qB⟩ := hrel
    have zw := qB.size
    cases k with
    | zero =>
      obtain ⟨fin, hfin⟩ : ∃ fin, fin = shB forms xs (xs.length - 0) := ⟨_, rfl⟩
      rw [← hfin]
      have HFIN := Lib.hid hfin
      have e0 : ((0 : Nat) : Int) - 1 = -1 := rfl
      rw [e0] at hi
      clear hfin rS
      subst hi
      go_wp2_with fail
      obtain ⟨w1, rfl⟩ : ∃ w1, w1 = wr := ⟨_, rfl⟩
      go_loopw [13, 14] (fun v i wr => ∃ j : Nat, j ≤ xs.length ∧ i = .int .i64 (j : Nat) ∧ wr.ownsRow w1.heap.size 5 1 v (bytesOf (catS (phiF forms) xs j)).length (nums .u8 (bytesOf (catS (phiF forms) xs j))) ∧ At wr w.heap.size 9 (hedA (phiF forms) xs 0) ∧ Below w.heap.size w wr ∧ w1.heap.size ≤ wr.heap.size)
        (fun _ i _ => xs.length - (intOf i).toNat)
      case atStart => exact ⟨0, Nat.zero_le _, rfl, own_nil _ _ _ _, rH, qB, Nat.le_refl _⟩
      case round =>
        obtain ⟨j, hj, rfl, rO, rH2, qB2, zl⟩ := hrel
        obtain ⟨Ab, cb, rfl⟩ := own_slice rO
        have hcs := cat_size (phiF forms) xs (phiF_le forms) j hj
        have hwj := wt_all xs j
        have lH := rH.lt
        by_cases hjl : j < xs.length
        · obtain ⟨ad', e', m0, m1, m2, m3, m4⟩ := node_at (Kd.C_below HC.out qB2) j hjl
          obtain rfl : ad = ad' := Option.some.inj e'
          have hh := hed_size (phiF forms) xs (phiF_le forms) j
          have hwo := wt_one xs hjl
          have hws := wt_split xs (i := 0) (j := j) (k := j + 1) (by omega) (by omega)
          have hwa := wt_all xs (j + 1)
          have hc1 : w1.heap.size ≤ wr.heap.size := zl
          obtain ⟨nb, hnb⟩ : ∃ nb, nb = (nd xs j).2.2.2.2 := ⟨_, rfl⟩
          rw [← hnb] at m4 hwo
          obtain ⟨H, hH⟩ : ∃ H, H = hedS (phiF forms) xs j := ⟨_, rfl⟩
          rw [← hH] at hh
          have hd := (rH2.cell j).trans (hedA_get (phiF forms) xs 0 j hjl)
          rw [if_pos (Nat.zero_le j), ← hH] at hd
          obtain ⟨b, hb⟩ : ∃ b, b = catS (phiF forms) xs j := ⟨_, rfl⟩
          rw [← hb] at rO hcs
          have hlen1 : (bytesOf b).length + H.size ≤ 140737488355328 := by rw [bytesOf_length]; omega
          have hlen2 : (bytesOf (b ++ H)).length + nb.size ≤ 140737488355328 := by rw [bytesOf_length, ByteArray.size_append]; omega
          have hnext : Hid (catS (phiF forms) xs (j + 1) = b ++ H ++ nb) := by
            show catS (phiF forms) xs (j + 1) = b ++ H ++ nb
            rw [catS, hb, hH, hnb]
          have j0 : (0 : Int) ≤ (j : Int) := by omega
          have j1 : (j : Int) < (xs.length : Int) := by omega
          rw [← hb]
          have HNB := Lib.hid hnb
          clear hnb hH hb e' m0 m1 m2 m3 hcs hwj hwo hws hwa hh
          go_upto_region 23 with (at_builtin; go_must (refine print_append_str (w0 := wr) w1.heap.size rfl (.tmp 96) (.tmp 100) 80 9 5 rfl Try.underlying80 Try.underlying9 infoU8 (.slice Ab (bytesOf b).length cb) (bytesOf b) H rfl rfl rO (Below.refl _ _) zl hlen1 ?_); intro v1 w3 hO3 hb3 hg3)
          rw [← bytesOf_append] at hO3
          obtain ⟨A3, c3, rfl⟩ := own_slice hO3
          have rH3 : At w3 w.heap.size 9 (hedA (phiF forms) xs 0) := (hg3.block _ rH2.lt (own_ne rO rH2 (by decide))).trans rH2
          have zq := qB2.size
          have qB3 : Below w.heap.size w w3 := ⟨hg3.os.trans qB2.os, hg3.tape.trans qB2.tape, hg3.output.trans qB2.output, Nat.le_trans qB2.size hg3.size, fun q hq => (hg3.block q (by omega) (fun e => by have := own_base rO q e.symm; omega)).trans (qB2.block q hq)⟩
          have zl3 : w1.heap.size ≤ w3.heap.size := Nat.le_trans zl hg3.size
          obtain ⟨ad', e', p0, p1, p2, p3, p4⟩ := node_at (Kd.C_below HC.out qB3) j hjl
          obtain rfl : ad = ad' := Option.some.inj e'
          rw [← HNB.out] at p4
          clear e' p0 p1 p2 p3 m4 hd rO rH2 hb3 hg3 qB2
          go_wp2_with (at_builtin; go_must (refine print_append_str (w0 := w3) w1.heap.size rfl (.tmp 102) (.tmp 107) 80 9 5 rfl Try.underlying80 Try.underlying9 infoU8 (.slice A3 (bytesOf (b ++ H)).length c3) (bytesOf (b ++ H)) nb rfl rfl hO3 (Below.refl _ _) zl3 hlen2 ?_); intro v2 w4 hO4 hb4 hg4)
          rw [← bytesOf_append, ← hnext.out] at hO4
          have rH4 : At w4 w.heap.size 9 (hedA (phiF forms) xs 0) := (hg4.block _ rH3.lt (own_ne hO3 rH3 (by decide))).trans rH3
          have zq3 := qB3.size
          have qB4 : Below w.heap.size w w4 := ⟨hg4.os.trans qB3.os, hg4.tape.trans qB3.tape, hg4.output.trans qB3.output, Nat.le_trans qB3.size hg4.size, fun q hq => (hg4.block q (by omega) (fun e => by have := own_base hO3 q e.symm; omega)).trans (qB3.block q hq)⟩
          have zl4 : w1.heap.size ≤ w4.heap.size := Nat.le_trans zl3 hg4.size
          clear rH3 qB3 hO3 hb4 hg4 p4
          go_wp2
          go_roundw
          case rel => exact ⟨j + 1, by omega, by go_num, hO4, rH4, qB4, zl4⟩
          case measure => simp [intOf]; omega
        · obtain rfl : j = xs.length := by omega
          obtain ⟨b, hb⟩ : ∃ b, b = catS (phiF forms) xs xs.length := ⟨_, rfl⟩
          rw [← hb] at rO hcs
          rw [← hb]
          have HBB := Lib.hid hb
          have hcv : (convert 80 9 (.slice Ab (bytesOf b).length cb)).run Try.prog wr = .ok (.string b) wr := by
            have h := own_string (P := Try.prog) (src := 80) (dst := 9) (e := 5) Try.underlying80 Try.underlying5 Try.underlying9 rO
            rwa [str_bytes] at h
          clear hb rO rH2
          go_wp2_with fail
          go_ret2
          exact ⟨by rw [HBB.out, HFIN.out, Nat.sub_zero]; rfl, qB2⟩
    | succ k =>
      have e0 : ((k + 1 : Nat) : Int) - 1 = (k : Int) := by omega
      rw [e0] at hi
      subst hi
      have hkl : k < xs.length := by omega
      obtain ⟨ad', e', m0, m1, m2, m3, m4⟩ := node_at (Kd.C_below HC.out qB) k hkl
      obtain rfl : ad = ad' := Option.some.inj e'
      have hdp := HS.out.depth k hkl
      obtain ⟨n, hn⟩ : ∃ n, n = nd xs k := ⟨_, rfl⟩
      rw [← hn] at m0 m1 m2 m3 m4 hdp
      obtain ⟨nd0, nc, nm, nt, nb⟩ := n
      simp only at m0 m1 m2 m3 m4 hdp
      obtain ⟨D, rfl⟩ : ∃ D : Nat, nd0 = (D : Int) := ⟨nd0.toNat, by omega⟩
      have k0 : (0 : Int) ≤ (k : Int) := by omega
      have k1 : (k : Int) < (xs.length : Int) := by omega
      have hbl : (ad.add (k * 5)).block < wr.heap.size := World.block_lt_of_cell? wr _ m0
      obtain ⟨S, hS⟩ : ∃ S, S = sums (phiF forms) xs (xs.length - (k + 1)) := ⟨_, rfl⟩
      rw [← hS] at rS
      obtain ⟨bS, hbS⟩ : ∃ bS, bS = shB forms xs (xs.length - (k + 1)) := ⟨_, rfl⟩
      rw [← hbS]
      have s1 : wr.cell? ⟨w.heap.size + 1, D + 1, none⟩ = some (.int .i64 (S (D + 1))) := (rS.cell (D + 1)).trans (arr66_get S (D + 1) (by omega))
      have s0 : wr.cell? ⟨w.heap.size + 1, D, none⟩ = some (.int .i64 (S D)) := (rS.cell D).trans (arr66_get S D (by omega))
      have f1 := rS.free (D + 1)
      have lS := rS.lt
      have HN := Lib.hid hn
      have HSS := Lib.hid hS
      have HBS := Lib.hid hbS
      clear hn hS hbS e' e0
      obtain ⟨len, hlen⟩ : ∃ len : Int, len = lenN nm (S (D + 1)) nb.size := ⟨_, rfl⟩
      go_upto_if 33 with fail
      go_cut [11] from 34 to 42 (fun v11 wc => v11 = .int .i64 len ∧ At wc wr.heap.size 49 #[.int .i64 (D : Int), .int .i64 nc, .bool nm, .int .i64 nt, .string nb] ∧ At wc (w.heap.size + 1) 97 (arr66 (sumN nm D S)) ∧ At wc w.heap.size 9 (hedA (phiF forms) xs (k + 1)) ∧ Below w.heap.size w wc)
      case first =>
        cases nm with
        | true =>
          go_wp2_with fail
          go_meet
          case rel =>
            have aN := At.new (wr.setCell ⟨w.heap.size + 1, D + 1, none⟩ (.int .i64 0)) 49 #[.int .i64 (D : Int), .int .i64 nc, .bool true, .int .i64 nt, .string nb]
            have ez : (wr.setCell ⟨w.heap.size + 1, D + 1, none⟩ (.int .i64 0)).heap.size = wr.heap.size := by simp [World.setCell]
            rw [ez] at aN
            refine ⟨by rw [hlen]; rfl, aN, ?_, (rH.far (by simp) _).alloc _, (qB.setCell (by simp) _).alloc (by rw [ez]; exact zw) _⟩
            rw [← sumN_true]
            exact (rS.set (D + 1) _).alloc _
        | false =>
          go_wp2_with fail
          go_meet
          case rel =>
            refine ⟨by rw [hlen]; rfl, At.new wr 49 _, ?_, rH.alloc _, qB.alloc zw _⟩
            rw [sumN_false]
            exact rS.alloc _
      case rest =>
        obtain ⟨rfl, aN, aS, aH, qB2⟩ := hcut
        obtain ⟨S2, hS2⟩ : ∃ S2 : Nat → Int, S2 = sumN nm D S := ⟨_, rfl⟩
        rw [← hS2] at aS
        have HS2 := Lib.hid hS2
        have HLEN := Lib.hid hlen
        clear hS2 hlen s1 s0 f1 rH rS m0 m1 m2 m3 m4
        obtain ⟨wd, hwd⟩ : ∃ wd, wd = wider forms k len := ⟨_, rfl⟩
        obtain ⟨wk, hwk⟩ : ∃ wk : Nat, wk = wideK len := ⟨_, rfl⟩
        have HWD := Lib.hid hwd
        have HWK := Lib.hid hwk
        clear hwd hwk
        go_wp2_with fail
        refine (wide_any len _).mono ?_
        rintro en w2 ⟨rfl, nd, rfl⟩
        rw [← HWK.out]
        go_upto_region 13 with fail
        go_cut [63] from 45 to 63 (fun v63 wx => v63 = .bool wd ∧ At wx wr.heap.size 49 #[.int .i64 (D : Int), .int .i64 nc, .bool nm, .int .i64 nt, .string nb] ∧ At wx (w.heap.size + 1) 97 (arr66 S2) ∧ At wx w.heap.size 9 (hedA (phiF forms) xs (k + 1)) ∧ Below w.heap.size w wx)
        case first =>
          by_cases cl : k < forms.length
          · obtain ⟨fa, cF, eF, _, hK, hcF⟩ := Kd.C_get (Kd.C_below HF.out (below_draws qB2 nd)) 0 (k : Int) (by omega) (by omega)
            have hK' : cF = [.int .i64 (forms.getD (k : Int).toNat 0)] := hK
            subst hK'
            have hcell := hcF 0 _ rfl
            rw [Int.toNat_natCast] at hcell
            obtain ⟨fk, hfk⟩ : ∃ fk, fk = forms.getD k 0 := ⟨_, rfl⟩
            rw [← hfk] at hcell
            have q1 : (k : Int) < (forms.length : Int) := by omega
            have hwf : wd = decide ((wk : Int) < fk ∧ fk ≤ 4) := by
              rw [HWD.out, HWK.out, hfk]
              unfold wider
              simp only [cl, true_and]
            have e3 : k * Kd.sz (Kd.int .i64) + 0 = k := by show k * 1 + 0 = k; omega
            rw [e3] at hcell
            subst eF
            clear hcF hK hfk e3
            by_cases c2 : (wk : Int) < fk
            · by_cases c3 : fk ≤ 4
              · rw [decide_eq_true ⟨c2, c3⟩] at hwf
                subst hwf
                go_wp2_with fail
                go_meet
                case rel => exact ⟨rfl, aN.drewN _, aS.drewN _, aH.drewN _, below_draws qB2 _⟩
              · rw [decide_eq_false (fun h => c3 h.2)] at hwf
                subst hwf
                go_wp2_with fail
                go_meet
                case rel => exact ⟨rfl, aN.drewN _, aS.drewN _, aH.drewN _, below_draws qB2 _⟩
            · rw [decide_eq_false (fun h => c2 h.1)] at hwf
              subst hwf
              go_wp2_with fail
              go_meet
              case rel => exact ⟨rfl, aN.drewN _, aS.drewN _, aH.drewN _, below_draws qB2 _⟩
          · have q1 : ¬ (k : Int) < (forms.length : Int) := by omega
            have hwf : wd = false := by
              rw [HWD.out]
              unfold wider
              exact decide_eq_false (fun h => cl h.1)
            subst hwf
            go_wp2_with fail
            go_meet
            case rel => exact ⟨rfl, aN.drewN _, aS.drewN _, aH.drewN _, below_draws qB2 _⟩
        case rest =>
          obtain ⟨rfl, bN, bA, bH, qB3⟩ := hcut
          clear aN aS aH qB2
          go_upto_if 63 with fail
          obtain ⟨ks, hks⟩ : ∃ ks : Nat, ks = phiF forms k len := ⟨_, rfl⟩
          have hn1 : Hid (ks = phiF forms k len) := hks
          clear hks
          have hkf : Hid (wd = false → ks = wk) := by
            intro h
            have h1 := HWD.out
            rw [h] at h1
            unfold wider at h1
            rw [hn1.out, HWK.out]
            unfold phiF
            rw [if_neg (of_decide_eq_false h1.symm)]
          have hkt : Hid (wd = true → k < forms.length ∧ (ks : Int) = forms.getD k 0) := by
            intro h
            have h1 := HWD.out
            rw [h] at h1
            unfold wider at h1
            have h2 := of_decide_eq_true h1.symm
            rw [hn1.out]
            unfold phiF
            rw [if_pos h2]
            exact ⟨h2.1, by omega⟩
          have hnk := HN.out
          have hn2 : Hid (okN nc nt) := by
            have := HS.out.name k hkl
            rw [← hnk] at this
            exact this
          have hn4 : 0 ≤ S D ∧ S D ≤ 134217728 := by
            have := sums_le (phiF forms) xs HS.out (phiF_le forms) (xs.length - (k + 1)) (by omega) D (by omega)
            rw [← HSS.out] at this
            omega
          have hlS : Hid (len = lenS xs k (sums (phiF forms) xs (xs.length - (k + 1)))) := by
            show len = lenS xs k (sums (phiF forms) xs (xs.length - (k + 1)))
            rw [← HSS.out, HLEN.out]
            unfold lenS lenN
            rw [← hnk]
            simp only [Int.toNat_natCast]
          have hn3 : 0 ≤ len ∧ len ≤ 134217728 := by
            have := lenS_le (phiF forms) xs HS.out (phiF_le forms) k hkl
            rw [← hlS.out] at this
            omega
          clear hnk
          go_cut [8, 12] from 64 to 67 (fun v8 v12 wy => v8 = .bool (bS && !wd) ∧ v12 = .int .i64 (ks : Nat) ∧ At wy wr.heap.size 49 #[.int .i64 (D : Int), .int .i64 nc, .bool nm, .int .i64 nt, .string nb] ∧ At wy (w.heap.size + 1) 97 (arr66 S2) ∧ At wy w.heap.size 9 (hedA (phiF forms) xs (k + 1)) ∧ Below w.heap.size w wy)
          case first =>
            cases wd with
            | true =>
              obtain ⟨cl, hkv⟩ := hkt.out rfl
              obtain ⟨fa, cF, eF, _, hK, hcF⟩ := Kd.C_get (Kd.C_below HF.out qB3) 0 (k : Int) (by omega) (by omega)
              have hK' : cF = [.int .i64 (forms.getD (k : Int).toNat 0)] := hK
              subst hK'
              have hcell := hcF 0 _ rfl
              have e3 : (k : Int).toNat * Kd.sz (Kd.int .i64) + 0 = k := by show (k : Int).toNat * 1 + 0 = k; omega
              rw [e3, Int.toNat_natCast, ← hkv] at hcell
              have q1 : (k : Int) < (forms.length : Int) := by omega
              subst eF
              clear hcF hK e3 hkv
              go_wp2_with fail
              go_meet
              case rel => exact ⟨by rw [Bool.not_true, Bool.and_false], rfl, bN, bA, bH, qB3⟩
            | false =>
              have hkk := hkf.out rfl
              have HKK := Lib.hid hkk
              clear hkk
              go_wp2_with fail
              go_meet
              case rel => exact ⟨by rw [Bool.not_false, Bool.and_true], by rw [HKK.out], bN, bA, bH, qB3⟩
          case rest =>
            obtain ⟨rfl, rfl, cN, cA, cH, qB4⟩ := hcut
            clear bN bA bH qB3
            have n0 := (cN.cell 0).trans rfl
            have n1 := (cN.cell 1).trans rfl
            have n2 := (cN.cell 2).trans rfl
            have n3 := (cN.cell 3).trans rfl
            have n4 := (cN.cell 4).trans rfl
            have hokf : Hid (okForm len ks) := by
              have := phiF_ok forms k len hn3.1 (by omega)
              rw [hn1.out]
              exact this
            have hLong : ∀ W : World, Calls Try.prog 60 #[.agg #[.int .i64 (D : Int), .int .i64 nc, .bool nm, .int .i64 nt, .string nb], .int .i64 len, .int .i64 (ks : Nat)] W fun e w' => e = .returned (.string (headS nc nm nt len ks)) ∧ Below W.heap.size W w' := fun W => long_any (D : Int) nc nt len nm nb ks W hn2.out hokf.out hn3.1 (by omega)
            have HLong := Lib.hid hLong
            clear hLong
            go_wp2_with fail
            refine (HLong.out _).mono ?_
            rintro en w5 ⟨rfl, b5⟩
            have zc := qB4.size
            have dN := cN.below b5 cN.lt
            have dA := cA.below b5 cA.lt
            have dH := cH.below b5 cH.lt
            have qB5 := qB4.trans (b5.mono zc)
            clear cN cA cH qB4 b5 n0 n1 n2 n3 n4
            have d1 := (dH.cell k).trans (hedA_get _ _ _ k hkl)
            have d2 := dH.free k
            obtain ⟨H, hH⟩ : ∃ H, H = headS nc nm nt len ks := ⟨_, rfl⟩
            rw [← hH]
            have HH := Lib.hid hH
            clear hH
            go_upto_region 17 with fail
            have eN : At (w5.setCell ⟨w.heap.size, k, none⟩ (.string H)) wr.heap.size 49 #[.int .i64 (D : Int), .int .i64 nc, .bool nm, .int .i64 nt, .string nb] := dN.far (by simp; omega) _
            have eA : At (w5.setCell ⟨w.heap.size, k, none⟩ (.string H)) (w.heap.size + 1) 97 (arr66 S2) := dA.far (by simp) _
            have eH := dH.set k (.string H)
            have qB6 : Below w.heap.size w (w5.setCell ⟨w.heap.size, k, none⟩ (.string H)) := qB5.setCell (by simp) _
            clear dN dA dH qB5 d1 d2
            generalize w5.setCell ⟨w.heap.size, k, none⟩ (.string H) = w6 at eN eA eH qB6 ⊢
            have hSD : S2 D = S D := by
              rw [HS2.out]
              unfold sumN
              rw [if_neg (by omega)]
            have eD := (eA.cell D).trans (arr66_get S2 D (by omega))
            rw [hSD] at eD
            have eHk : w6.cell? ⟨w.heap.size, k, none⟩ = some (.string H) := by
              rw [eH.cell k, Array.getElem?_setIfInBounds_self_of_lt]
              unfold hedA
              simp only [List.size_toArray, List.length_map, List.length_range]
              exact hkl
            have hHs : (H.size : Int) = hsz ks := by rw [HH.out, headS_size]
            have hz := hsz_range ks (okForm_le hokf.out)
            rw [← hHs] at hz
            have eF := eA.free D
            have D0 : (0 : Int) ≤ (D : Int) := by omega
            have D1 : (D : Int) < 66 := by omega
            clear HLong
            refine start_ (n := 16) (S := fun V => V.cell? ⟨wr.heap.size, 0, none⟩ = some (.int .i64 (D : Int)) ∧ V.cell? ⟨w.heap.size + 1, D, none⟩ = some (.int .i64 (S D)) ∧ V.cell? ⟨w.heap.size, k, none⟩ = some (.string H)) (ds := [15]) #[false, false, false, false, false, false, false, false, false, false, false, false, false, false, false, false] (by kernel_rfl) rfl rfl ⟨(eN.drew.cell 0).trans rfl, eD, eHk⟩ (fun hHeld => ?_)
            refine pure_ (i := 0) (N := some 75) (v := ?_) (a' := ?_) #[true, false, false, false, false, false, false, false, false, false, false, false, false, false, false, false] rfl rfl (by kernel_rfl) (fun _ _ _ h => h) (Or.inl ⟨by rfl, ?_⟩) ?_ ?_
            rotate_left
            · intro w'
              go_simp
              with_reducible rfl
            rotate_left
            · simp only [Act.put, List.setIfInBounds_toArray, List.set_cons_zero, List.set_cons_succ, i64_w, i32_w]
              rfl
            refine pure_ (i := 2) (N := some 77) (v := ?_) (a' := ?_) #[true, false, true, false, false, false, false, false, false, false, false, false, false, false, false, false] rfl rfl (by kernel_rfl) (fun _ _ _ h => h) (Or.inl ⟨by rfl, ?_⟩) ?_ ?_
            rotate_left
            · intro w'
              go_simp
              with_reducible rfl
            rotate_left
            · simp only [Act.put, List.setIfInBounds_toArray, List.set_cons_zero, List.set_cons_succ, i64_w, i32_w]
              rfl
            refine pure_ (i := 6) (N := some 81) (v := ?_) (a' := ?_) #[true, false, true, false, false, false, true, false, false, false, false, false, false, false, false, false] rfl rfl (by kernel_rfl) (fun _ _ _ h => h) (Or.inl ⟨by rfl, ?_⟩) ?_ ?_
            rotate_left
            · intro w'
              go_simp
              with_reducible rfl
            rotate_left
            · simp only [Act.put, List.setIfInBounds_toArray, List.set_cons_zero, List.set_cons_succ, i64_w, i32_w]
              rfl
            refine pure_ (i := 7) (N := some 82) (v := ?_) (a' := ?_) #[true, false, true, false, false, false, true, true, false, false, false, false, false, false, false, false] rfl rfl (by kernel_rfl) (fun _ _ _ h => h) (Or.inl ⟨by rfl, ?_⟩) ?_ ?_
            rotate_left
            · intro w'
              go_simp
              with_reducible rfl
            rotate_left
            · simp only [Act.put, List.setIfInBounds_toArray, List.set_cons_zero, List.set_cons_succ, i64_w, i32_w]
              rfl
            refine pure_ (i := 8) (N := some 83) (v := ?_) (a' := ?_) #[true, false, true, false, false, false, true, true, true, false, false, false, false, false, false, false] rfl rfl (by kernel_rfl) (fun _ _ _ h => h) (Or.inl ⟨by rfl, ?_⟩) ?_ ?_
            rotate_left
            · intro w'
              go_simp
              with_reducible rfl
            rotate_left
            · simp only [Act.put, List.setIfInBounds_toArray, List.set_cons_zero, List.set_cons_succ, i64_w, i32_w]
              rfl
            refine pure_ (i := 12) (N := some 87) (v := ?_) (a' := ?_) #[true, false, true, false, false, false, true, true, true, false, false, false, true, false, false, false] rfl rfl (by kernel_rfl) (fun _ _ _ h => h) (Or.inl ⟨by rfl, ?_⟩) ?_ ?_
            rotate_left
            · intro w'
              go_simp
              with_reducible rfl
            rotate_left
            · simp only [Act.put, List.setIfInBounds_toArray, List.set_cons_zero, List.set_cons_succ, i64_w, i32_w]
              rfl
            refine take_ (i := 1) (N := some 76) (v := ?_) (a' := ?_) #[true, true, true, false, false, false, true, true, true, false, false, false, true, false, false, false] rfl rfl (by kernel_rfl) (fun _ _ _ h => h) (Or.inl ⟨by rfl, ?_⟩) hHeld ?_ ?_
            rotate_left
            · rintro w' ⟨s0, s1, s2⟩
              go_simp
              with_reducible rfl
            rotate_left
            · simp only [Act.put, List.setIfInBounds_toArray, List.set_cons_zero, List.set_cons_succ, i64_w, i32_w]
              rfl
            refine take_ (i := 3) (N := some 78) (v := ?_) (a' := ?_) #[true, true, true, true, false, false, true, true, true, false, false, false, true, false, false, false] rfl rfl (by kernel_rfl) (fun _ _ _ h => h) (Or.inl ⟨by rfl, ?_⟩) hHeld ?_ ?_
            rotate_left
            · rintro w' ⟨s0, s1, s2⟩
              go_simp
              with_reducible rfl
            rotate_left
            · simp only [Act.put, List.setIfInBounds_toArray, List.set_cons_zero, List.set_cons_succ, i64_w, i32_w]
              rfl
            refine pure_ (i := 4) (N := some 79) (v := ?_) (a' := ?_) #[true, true, true, true, true, false, true, true, true, false, false, false, true, false, false, false] rfl rfl (by kernel_rfl) (fun _ _ _ h => h) (Or.inl ⟨by rfl, ?_⟩) ?_ ?_
            rotate_left
            · intro w'
              go_simp
              with_reducible rfl
            rotate_left
            · simp only [Act.put, List.setIfInBounds_toArray, List.set_cons_zero, List.set_cons_succ, i64_w, i32_w]
              rfl
            refine take_ (i := 5) (N := some 80) (v := ?_) (a' := ?_) #[true, true, true, true, true, true, true, true, true, false, false, false, true, false, false, false] rfl rfl (by kernel_rfl) (fun _ _ _ h => h) (Or.inl ⟨by rfl, ?_⟩) hHeld ?_ ?_
            rotate_left
            · rintro w' ⟨s0, s1, s2⟩
              go_simp
              with_reducible rfl
            rotate_left
            · simp only [Act.put, List.setIfInBounds_toArray, List.set_cons_zero, List.set_cons_succ, i64_w, i32_w]
              rfl
            refine take_ (i := 9) (N := some 84) (v := ?_) (a' := ?_) #[true, true, true, true, true, true, true, true, true, true, false, false, true, false, false, false] rfl rfl (by kernel_rfl) (fun _ _ _ h => h) (Or.inl ⟨by rfl, ?_⟩) hHeld ?_ ?_
            rotate_left
            · rintro w' ⟨s0, s1, s2⟩
              go_simp
              with_reducible rfl
            rotate_left
            · simp only [Act.put, List.setIfInBounds_toArray, List.set_cons_zero, List.set_cons_succ, i64_w, i32_w]
              rfl
            refine pure_ (i := 10) (N := some 85) (v := ?_) (a' := ?_) #[true, true, true, true, true, true, true, true, true, true, true, false, true, false, false, false] rfl rfl (by kernel_rfl) (fun _ _ _ h => h) (Or.inl ⟨by rfl, ?_⟩) ?_ ?_
            rotate_left
            · intro w'
              go_simp
              with_reducible rfl
            rotate_left
            · simp only [Act.put, List.setIfInBounds_toArray, List.set_cons_zero, List.set_cons_succ, i64_w, i32_w]
              rfl
            refine pure_ (i := 11) (N := some 86) (v := ?_) (a' := ?_) #[true, true, true, true, true, true, true, true, true, true, true, true, true, false, false, false] rfl rfl (by kernel_rfl) (fun _ _ _ h => h) (Or.inl ⟨by rfl, ?_⟩) ?_ ?_
            rotate_left
            · intro w'
              go_simp
              with_reducible rfl
            rotate_left
            · simp only [Act.put, List.setIfInBounds_toArray, List.set_cons_zero, List.set_cons_succ, i64_w, i32_w]
              rfl
            refine pure_ (i := 13) (N := some 88) (v := ?_) (a' := ?_) #[true, true, true, true, true, true, true, true, true, true, true, true, true, true, false, false] rfl rfl (by kernel_rfl) (fun _ _ _ h => h) (Or.inl ⟨by rfl, ?_⟩) ?_ ?_
            rotate_left
            · intro w'
              go_simp
              with_reducible rfl
            rotate_left
            · simp only [Act.put, List.setIfInBounds_toArray, List.set_cons_zero, List.set_cons_succ, i64_w, i32_w]
              rfl
            refine pure_ (i := 14) (N := some 89) (v := ?_) (a' := ?_) #[true, true, true, true, true, true, true, true, true, true, true, true, true, true, true, false] rfl rfl (by kernel_rfl) (fun _ _ _ h => h) (Or.inl ⟨by rfl, ?_⟩) ?_ ?_
            rotate_left
            · intro w'
              go_simp
              with_reducible rfl
            rotate_left
            · simp only [Act.put, List.setIfInBounds_toArray, List.set_cons_zero, List.set_cons_succ, i64_w, i32_w]
              rfl
            refine last_ (i := 15) (N := none) #[true, true, true, true, true, true, true, true, true, true, true, true, true, true, true, true] rfl rfl (by kernel_rfl) (by decide) (fun K hK => ?_)
            refine skip_ (w1 := ?_) (by rfl) rfl ?_ ?_
            rotate_left
            · go_simp
              rfl
            refine hK.out _ _ ?_
            clear hK K
            refine done_ (by kernel_rfl) ?_
            have ew : wrap64 (wrap64 (S D + hsz ks) + len) = S D + hsz ks + len := by rw [wrI (S D + hsz ks) (by omega) (by omega), wrI _ (by omega) (by omega)]
            rw [ew]
            clear ew
            have hmm : xs.length - k = (xs.length - (k + 1)) + 1 := by omega
            have hmm2 : xs.length - (xs.length - (k + 1) + 1) = k := by omega
            have hnk := HN.out
            have hl2 := hlS.out
            have hphk := hn1.out
            have gA : At (w6.setCell ⟨w.heap.size + 1, D, none⟩ (.int .i64 (S D + hsz ks + len))).drew (w.heap.size + 1) 97 (arr66 (sums (phiF forms) xs (xs.length - k))) := by
              have h := (eA.set D (.int .i64 (S D + hsz ks + len))).drew
              rw [arr66_set] at h
              have e : (fun x => if x = D then S D + hsz ks + len else S2 x) = sums (phiF forms) xs (xs.length - k) := by
                rw [hmm]
                show _ = stepS (phiF forms) xs (xs.length - (xs.length - (k + 1) + 1)) (sums (phiF forms) xs (xs.length - (k + 1)))
                rw [hmm2]
                funext x
                unfold stepS
                rw [← hl2, ← hphk, ← HSS.out, ← hnk]
                simp only [Int.toNat_natCast]
                by_cases hx : x = D
                · rw [if_pos hx, if_pos hx, hx]
                · rw [if_neg hx, if_neg hx, HS2.out]
                  rfl
              rw [e] at h
              exact h
            have gH : At (w6.setCell ⟨w.heap.size + 1, D, none⟩ (.int .i64 (S D + hsz ks + len))).drew w.heap.size 9 (hedA (phiF forms) xs k) := by
              have h := (eH.far (show w.heap.size ≠ w.heap.size + 1 by omega) (p := ⟨w.heap.size + 1, D, none⟩) (.int .i64 (S D + hsz ks + len))).drew
              have e : H = hedS (phiF forms) xs k := by
                rw [HH.out]
                unfold hedS
                rw [← hl2, ← hphk, ← hnk]
              rw [e, hedA_set] at h
              exact h
            have gB : Below w.heap.size w (w6.setCell ⟨w.heap.size + 1, D, none⟩ (.int .i64 (S D + hsz ks + len))).drew := below_draws (qB6.setCell (by simp) _) 1
            have gS : shB forms xs (xs.length - k) = (bS && !wd) := by
              rw [hmm]
              show (shB forms xs (xs.length - (k + 1)) && !(wider forms (xs.length - (xs.length - (k + 1) + 1)) (lenS xs (xs.length - (xs.length - (k + 1) + 1)) (sums (phiF forms) xs (xs.length - (k + 1)))))) = _
              rw [hmm2, ← hl2, ← HBS.out, ← HWD.out]
            clear eN eA eH qB6 eD eHk hSD hHs eF HN HSS HBS HS2 HLEN HWD HWK hn1 hn2 hlS hkf hkt hokf HH hnk hl2 hphk hmm hmm2
            generalize (w6.setCell ⟨w.heap.size + 1, D, none⟩ (.int .i64 (S D + hsz ks + len))).drew = w7 at gA gH gB ⊢
            have GS := Lib.hid gS
            clear gS
            go_wp2
            go_roundw
            case rel => exact ⟨k, by omega, by rw [GS.out], by go_num, gH, gA, gB⟩
            case measure => simp [intOf]
end Go.Proofs.Ytolhmomnidlmaaa.W
