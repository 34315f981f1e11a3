/- Walk of the statement FrameCuts: it comes to true. -/
import Derived.Test.YtcjlpedpiljnmaaFtw
import Derived.Test.YtcjlpedpiljnmaaFq
namespace Go.Proofs.Ytcjlpedpiljnmaa.W
open Go.RowKit Go.Proofs.YtcjlpedpiljnmaaW.PrintWords Go.Proofs.YtcjlpedpiljnmaaW.PrintLast Go.Proofs.Ytcjlpedpiljnmaa.GP
set_option linter.unusedVariables false
set_option linter.unusedSimpArgs false

def h5 : ByteArray := ⟨#[48, 3, 2, 1, 5]⟩
theorem first_cut (limit : Int) (s : ByteArray) (h : 8 ≤ limit) : ∃ l, (cutAt limit (h5 ++ s) 0).1 = h5 :: l := by
  have hz : (h5 ++ s).size = 5 + s.size := ByteArray.size_append
  have l0 : lookS limit h5 = (2, 3, 0) := by
    unfold lookS
    have e1 : byt h5 1 = 3 := by decide
    rw [if_neg (by decide), if_neg (by decide), if_neg (by decide), if_neg (by decide), if_neg (by decide), if_pos (by decide), e1, if_neg (by omega)]
  have hl := look_more limit h5 s (by rw [l0]) (by rw [l0]; decide) (by rw [l0]; decide)
  rw [cutAt_in (by omega), extract_whole, hl, l0, if_neg (by simp)]
  have m0 : missS (2, 3, 0) ((h5 ++ s).size : Int) = 0 := by
    unfold missS
    rw [if_neg (by simp), if_pos rfl, if_neg (by simp only; omega)]
  rw [m0, if_neg (by omega)]
  have e : (h5 ++ s).extract 0 (2 + 3 : Int).toNat = h5 := by
    rw [ext_front h5 s _ (by decide)]
    decide
  simp only [e]
  exact ⟨_, rfl⟩

theorem join_size (l : List ByteArray) (i : Nat) : (joinL (l.take i)).size ≤ (joinL l).size := by
  have h : joinL l = joinL (l.take i) ++ joinL (l.drop i) := by rw [← joinL_app, List.take_append_drop]
  have h2 : (joinL (l.take i) ++ joinL (l.drop i)).size = (joinL (l.take i)).size + (joinL (l.drop i)).size := ByteArray.size_append
  rw [h]
  omega
set_option maxRecDepth 100000 in
set_option maxHeartbeats 8000000 in
theorem cuts_any (limit : Int) (stream : ByteArray) (A : Option Addr) (c : Nat) (cuts : List Int) (w : World) (hC : Kd.C (Kd.int .i64) w A cuts.length cuts) (hc : cuts.length ≤ c) (hw : ∀ x ∈ cuts, (Lit.int .i64 x).wf = true)
    (hz : stream.size ≤ 1048576) (hl : cuts.length ≤ 1048576) :
    Calls Try.prog 10 #[.int .i64 limit, .string stream, .slice A cuts.length c] w fun en w' => en = .returned (.bool true) ∧ Below w.heap.size w w' := by
  obtain ⟨lim, hlim⟩ : ∃ lim : Int, lim = if limit < 8 then 8 else limit := ⟨_, rfl⟩
  have h8 : 8 ≤ lim := by rw [hlim]; split <;> omega
  have HL := Lib.hid hlim
  obtain ⟨S, hS⟩ : ∃ S, S = h5 ++ stream := ⟨_, rfl⟩
  have hSz : S.size ≤ 1048581 := by rw [hS]; have : (h5 ++ stream).size = 5 + stream.size := ByteArray.size_append; omega
  obtain ⟨lt, hlt⟩ := first_cut lim stream h8
  rw [← hS] at hlt
  obtain ⟨out, hout⟩ : ∃ out, out = cutAt lim S 0 := ⟨_, rfl⟩
  rw [← hout] at hlt
  have HS := Lib.hid hS
  have HO := Lib.hid hout
  have HF := Lib.hid hlt
  have HC := Lib.hid hC
  have HW := Lib.hid hw
  clear hlim hS hlt hout hC hw
  go_enter Try.func10, Try.ntmps10
  go_upto_if 18 with fail
  go_cut [0] from 17 (fun v0 wx => v0 = .int .i64 lim ∧ wx = w)
  case first =>
    by_cases h : limit < 8
    · have e := HL.out
      rw [if_pos h] at e
      subst e
      go_wp2_with fail
      go_meet
      case rel => exact ⟨rfl, rfl⟩
    · have e := HL.out
      rw [if_neg h] at e
      subst e
      go_wp2_with fail
      go_meet
      case rel => exact ⟨rfl, rfl⟩
  case rest =>
    obtain ⟨rfl, rfl⟩ := hcut
    go_wp2_with fail
    have e0 : (⟨#[48, 3, 2, 1, 5]⟩ : ByteArray) ++ stream = S := HS.out.symm
    rw [e0]
    clear e0
    refine (fsplit_any lim S _ (by omega)).mono ?_
    rintro en w1 ⟨v0, rfl, hR, hB⟩
    rw [← HO.out] at hR ⊢
    have hms : out.1.length = lt.length + 1 := by rw [HF.out]; rfl
    obtain ⟨gm, cm, rfl, gm1, gm2, -⟩ := Kd.R_form hR (by omega)
    have hcm := (Kd.R_cell ByteArray.empty hR 0 (by omega) (by omega)).1
    have e1 : rdOf ByteArray.empty out.1 0 = ⟨#[48, 3, 2, 1, 5]⟩ := by rw [HF.out]; rfl
    rw [e1] at hcm
    have hcm0 : w1.cell? ⟨gm, 0, none⟩ = some (.string ⟨#[48, 3, 2, 1, 5]⟩) := hcm
    have t1 : ((out.1.length : Int) == 0) = false := by rw [beq_eq_false_iff_ne]; omega
    have t2 : (out.1.length == 0) = false := by rw [beq_eq_false_iff_ne]; omega
    have t3 : 0 < out.1.length := by omega
    have HMS := Lib.hid hms
    have HR := Lib.hid hR
    clear hcm e1 hms hR
    go_wp2_with fail
    refine gen1 (w := w1) (G := fun W => Calls _ _ _ W _) fun W hBW hzW kC => ?_
    refine (New_st lim W).mono ?_
    rintro en w2 ⟨g, rfl, hg, hF, hB2⟩
    have kC2 := kC.below hB2 kC.lt
    have hC2 : Kd.C (Kd.int .i64) w2 A cuts.length cuts := Kd.C_below (Kd.C_below (Kd.C_below HC.out hB) hBW) hB2
    have hR2 := Kd.R_below (Kd.R_below HR.out hBW) hB2
    have B2 : Below wc.heap.size wc w2 := (hB.trans (hBW.mono hB.size)).trans (hB2.mono (by have := hB.size; omega))
    have zz : wc.heap.size ≤ W.heap.size := by have := hB.size; omega
    obtain ⟨k, pcs, hp1, hp2, hp3⟩ := pieces_f S cuts hl HW.out (by omega)
    have HP1 := Lib.hid hp1
    have HP2 := Lib.hid hp2
    have HR2 := Lib.hid hR2
    have HC2 := Lib.hid hC2
    clear HR HC hB hBW kC hzW hcm0 t1 t2 t3 hp1 hp2 hB2 hR2 hC2
    go_wp2_with fail
    refine (rosterlaw03_pieces.calls k S A c cuts pcs _ HC2.out hc HP1.out).mono ?_
    rintro en w3 ⟨vp, rfl, hRp, hB3⟩
    obtain ⟨Ap, cp, rfl⟩ := Kd.R_slice hRp
    have kC3 := kC2.below hB3 kC2.lt
    have hR3 := Kd.R_below HR2.out hB3
    have hF3 := hF.at hB3
    have B3 : Below wc.heap.size wc w3 := B2.trans (hB3.mono B2.size)
    obtain ⟨N, hN⟩ : ∃ N, N = w3.heap.size := ⟨_, rfl⟩
    have rP : Kd.R Kd.string 9 w3 w2.heap.size (fun q => q < N) (.slice Ap pcs.length cp) pcs := Kd.R_mono (Kd.R_bound hRp) (fun q hq => by rw [hN]; exact hq.2.2.1)
    have rM : Kd.R Kd.string 9 w3 wc.heap.size (fun q => q < N) (.slice (some ⟨gm, 0, none⟩) out.1.length cm) out.1 := Kd.R_mono (Kd.R_bound hR3) (fun q hq => by rw [hN]; exact hq.2.2.1)
    have gN : wc.heap.size ≤ g := by omega
    have HN : Hid (N = w3.heap.size) := hN
    have RP := Lib.hid rP
    have RM := Lib.hid rM
    have KC := Lib.hid kC3
    have HF3 := Lib.hid hF3
    have HB3 := Lib.hid B3
    have NN : N ≤ w3.heap.size := by omega
    have wN : wc.heap.size ≤ N := by rw [hN]; exact B3.size
    clear hRp hB3 HR2 kC2 hF B2 rP rM kC3 hF3 B3 hN hR3
    go_wp2_with fail
    go_loopw [9, 10, 12] (fun vg ve vi wr => ∃ (i : Nat) (v : Value), i ≤ pcs.length ∧ vi = .int .i64 i ∧ ve = .int .i64 (cutAt lim (joinL (pcs.take i)) 0).2.2 ∧ FrSt wr W.heap.size g v lim (joinL (pcs.take i)) ∧
        Kd.R Kd.string 9 wr N (fun _ => True) vg (cutAt lim (joinL (pcs.take i)) 0).1 ∧ Kd.R Kd.string 9 wr w2.heap.size (fun q => q < N) (.slice Ap pcs.length cp) pcs ∧
        Kd.R Kd.string 9 wr wc.heap.size (fun q => q < N) (.slice (some ⟨gm, 0, none⟩) out.1.length cm) out.1 ∧ At wr w1.heap.size 27 #[.slice (some ⟨gm, 0, none⟩) out.1.length cm, .int .i64 out.2.1, .int .i64 out.2.2] ∧
        Below wc.heap.size wc wr ∧ N ≤ wr.heap.size)
      (fun _ _ i _ => pcs.length - (intOf i).toNat)
    case atStart =>
      have e0 : cutAt lim (joinL (pcs.take 0)) 0 = ([], 0, 0) := cutAt_end (Nat.le_refl _)
      refine ⟨0, .slice none 0 0, Nat.zero_le _, rfl, by rw [e0], HF3.out, by rw [e0]; exact Kd.R_nil _ _ _ _ _, RP.out, RM.out, KC.out, HB3.out, NN⟩
    case round =>
      obtain ⟨i, v, hi, rfl, rfl, hF, rG, rP, rM, rC, rB, rN⟩ := hrel
      by_cases hil : i < pcs.length
      · obtain ⟨u, hu⟩ : ∃ u, u = pcs.getD i ⟨#[]⟩ := ⟨_, rfl⟩
        have hj := join_take pcs i hil
        rw [← hu] at hj
        have hsz := join_size pcs (i + 1)
        rw [hj, HP2.out] at hsz
        obtain ⟨pre, hpre⟩ : ∃ pre, pre = joinL (pcs.take i) := ⟨_, rfl⟩
        rw [← hpre] at hF rG hj hsz ⊢
        have hpu : (pre ++ u).size = pre.size + u.size := ByteArray.size_append
        obtain ⟨gp, cp', ep, gp1, gp2, -⟩ := Kd.R_form rP (by omega)
        injection ep with ea _ ec
        subst ea
        subst ec
        have hcell := (Kd.R_cell ByteArray.empty rP (i : Int) (by omega) (by omega)).1
        have eu : rdOf ByteArray.empty pcs (i : Int) = u := by rw [hu]; rfl
        rw [eu, Int.toNat_natCast] at hcell
        have hcv := fun V => str_conv u V
        have q0 : (0 : Int) ≤ i := by omega
        have q1 : (i : Int) < pcs.length := by omega
        have hC := str_reads wr u (by omega)
        have hBV := str_below wr u
        have hFV := hF.at hBV
        have rG1 := Kd.R_below rG hBV
        have rP1 := Kd.R_below rP hBV
        have rM1 := Kd.R_below rM hBV
        have rC1 := rC.below hBV rC.lt
        have rB1 : Below wc.heap.size wc (Lib.bytesWorld wr 5 u) := rB.trans (hBV.mono rB.size)
        have rN1 : N ≤ (Lib.bytesWorld wr 5 u).heap.size := Nat.le_trans rN hBV.size
        have WB : W.heap.size ≤ (Lib.bytesWorld wr 5 u).heap.size := by have := hFV.mem.lt; omega
        have hle : pre.size + u.size ≤ 16777216 := by omega
        have hcap : u.size ≤ grownCap wr u.size 0 5 := grownCap_ge _ _ _ _
        have HFV := Lib.hid hFV
        have RG1 := Lib.hid rG1
        have RP1 := Lib.hid rP1
        have RM1 := Lib.hid rM1
        have RC1 := Lib.hid rC1
        have RB1 := Lib.hid rB1
        have HC := Lib.hid hC
        have HJ := Lib.hid hj
        have HPU := Lib.hid hpu
        have HSZ := Lib.hid hsz
        have HPRE := Lib.hid hpre
        clear hu eu hF rG rP rM rC rB hC hBV hFV rG1 rP1 rM1 rC1 rB1 hj hpu hsz hpre
        go_wp2_with fail
        refine (Feed_pre _ W.heap.size g v lim pre u _ _ HFV.out HC.out hcap WB hle).mono ?_
        rintro en w5 ⟨v0, v', m, rfl, hm, hRm, hF5, ho, hT⟩
        obtain ⟨Am, cm', rfl, qm, hCm⟩ := Kd.R_reads hRm
        have rG5 := hT.over HFV.out RG1.out (by decide)
        have rP5 := hT.over HFV.out RP1.out (by decide)
        have rM5 := hT.over HFV.out RM1.out (by decide)
        have rC5 := hT.keep HFV.out RC1.out (by decide) (by decide)
        have rB5 := hT.base HFV.out RB1.out RB1.out.size gN zz
        have rN5 : N ≤ w5.heap.size := Nat.le_trans rN1 hT.size
        obtain ⟨Ag, cg, rfl⟩ := Kd.R_slice rG5
        have hcnt := cut_count lim (pre ++ u) ((pre ++ u).size + 1) 0 (Nat.zero_le _) (by omega)
        rw [hm, HPU.out, List.length_append] at hcnt
        have hlen : ((cutAt lim pre 0).1.length + m.length) * 16 ≤ 140737488355328 := by omega
        have HM := Lib.hid hm
        clear HFV RG1 RP1 RM1 RC1 RB1 HC hT hRm hm rN1 hcnt hcell hcv
        go_upto_region 18 with (at_builtin; go_must (refine Kd.R_append_row (w0 := w5) Value.string ByteArray.empty N rfl (.tmp 58) (.tmp 59) 24 9 (.string ⟨#[]⟩) 16 rfl Try.underlying24 info_str rfl (by decide) (.slice Ag (cutAt lim pre 0).1.length cg) (cutAt lim pre 0).1 m Am m.length cm' (fun _ => True) rfl rfl (fun _ _ => trivial) rG5 hCm (Below.refl _ _) rN5 hlen ?_); intro v6 w6 hR6 hb6 hg6 hat6)
        have hb := fun q hq => ((Kd.R_bound rG5).1 q hq).2.1
        have rF6 := FrAt.grown hF5 rG5 (by decide) (by decide) hg6
        have rP6 := Kd.R_grown rP5 hg6 (fun q hq e => by have := hb q e.symm; omega)
        have rM6 := Kd.R_grown rM5 hg6 (fun q hq e => by have := hb q e.symm; omega)
        have rC6 : At w6 w1.heap.size 27 #[.slice (some ⟨gm, 0, none⟩) out.1.length cm, .int .i64 out.2.1, .int .i64 out.2.2] := (hg6.block _ rC5.lt (Kd.R_ne rG5 rC5 (by decide))).trans rC5
        have rB6 : Below wc.heap.size wc w6 := rB5.grown hg6 rB5.size (fun q hq => by have := hb q hq; omega)
        have rN6 : N ≤ w6.heap.size := Nat.le_trans rN5 hg6.size
        clear rG5 rP5 rM5 rC5 rB5 hF5 hb hg6 hb6 hat6 hCm ho
        go_wp2
        go_roundw
        case rel =>
          refine ⟨i + 1, v', by omega, by go_num, ?_, ?_, ?_, rP6, rM6, rC6, rB6, rN6⟩
          · rw [HJ.out]
          · rw [HJ.out]; exact rF6
          · rw [HJ.out, HM.out]; exact hR6
        case measure => simp [intOf]; omega
      · obtain rfl : i = pcs.length := by omega
        rw [List.take_length, HP2.out, ← HO.out] at rG ⊢
        rw [List.take_length, HP2.out] at hF
        unfold FrSt at hF
        rw [← HO.out] at hF
        obtain ⟨Ag, cg, rfl⟩ := Kd.R_slice rG
        have m2 := (rC.cell 2).trans rfl
        have m1 := (rC.cell 1).trans rfl
        have m0 := (rC.cell 0).trans rfl
        have e1 : (out.2.2 != out.2.2) = false := by simp
        have hcG := (Kd.R_reads' rG).2.2
        have hcM := (Kd.R_reads' rM).2.2
        have gG := (Kd.R_reads' rG).2.1
        have gM := (Kd.R_reads' rM).2.1
        have hcnt := cut_count lim S (S.size + 1) 0 (Nat.zero_le _) (by omega)
        rw [← HO.out] at hcnt
        have hsm : ∀ V, Kd.C Kd.string V Ag out.1.length out.1 → Kd.C Kd.string V (some ⟨gm, 0, none⟩) out.1.length out.1 → Calls Try.prog 19 #[.slice Ag out.1.length cg, .slice (some ⟨gm, 0, none⟩) out.1.length cm] V fun e w' => e = .returned (.bool true) ∧ Drawn0 V w' :=
          fun V h1 h2 => rosterlaw03_same.calls _ Ag cg out.1 _ cm out.1 true V h1 gG h2 gM (same_f out.1 (by omega))
        have hsw := hsm wr hcG hcM
        have HSW := Lib.hid hsw
        have hpl := cut_place lim S (S.size + 1) 0 (Nat.zero_le _) (by omega)
        rw [← HO.out] at hpl
        have rF := Lib.hid hF
        have RB := Lib.hid rB
        clear hcG hcM gG gM hcnt hsm hsw rG rP rM rB hF
        go_wp2_with fail
        refine HSW.out.mono ?_
        rintro en w7 ⟨rfl, nd, rfl⟩
        have rF7 : FrAt (wr.drewN nd) W.heap.size g v lim (keptS S out) out.2.1 out.2.2 := ⟨rF.out.mem.drewN _, Kd.R_drewN rF.out.row _⟩
        have rC7 := rC.drewN nd
        have rB7 : Below wc.heap.size wc (wr.drewN nd) := below_draws RB.out nd
        clear m0 m1 m2 rC RB rF
        generalize wr.drewN nd = w7 at rF7 rC7 rB7 ⊢
        have m2 := (rC7.cell 2).trans rfl
        have m1 := (rC7.cell 1).trans rfl
        by_cases he : out.2.2 = 0
        · have hb : (out.2.2 != 0) = false := by simp [he]
          have hk : ((keptS S out).size : Int) = S.size - out.2.1 := by
            unfold keptS
            rw [if_pos he, ByteArray.size_extract]
            omega
          have hH : ∀ n, Calls Try.prog 27 #[.pointer (some ⟨g, 0, none⟩)] (w7.drewN n) fun e w' => e = .returned (.int .i64 ((S.size : Int) - out.2.1)) ∧ w' = w7.drewN n := by
            intro n
            refine (Held_any _ W.heap.size g v lim out.2.1 out.2.2 (keptS S out) ⟨rF7.mem.drewN _, Kd.R_drewN rF7.row _⟩).mono ?_
            rintro e w' ⟨rfl, rfl⟩
            exact ⟨by rw [hk], rfl⟩
          have HH := Lib.hid hH
          have ews : IntKind.i64.wrap ((S.size : Int) - out.2.1) = S.size - out.2.1 := IntWalk.i64_in _ (by omega)
          have ebe : (((S.size : Int) - out.2.1) == ((S.size : Int) - out.2.1)) = true := beq_self_eq_true _
          clear hk hH rF7
          go_wp2_with fail
          go_quiet ((go_at_call 27; exact Calls.quiet_of_same (HH.out _)))
          go_wp2_with fail
          go_ret
          exact ⟨rfl, below_draws rB7 _⟩
        · have hb : (out.2.2 != 0) = true := by simp [he]
          have hk : (keptS S out).size = 0 := by
            unfold keptS
            rw [if_neg he]
            rfl
          have e3 : (out.2.2 == out.2.2) = true := beq_self_eq_true _
          have e4 : (out.2.1 == out.2.1) = true := beq_self_eq_true _
          have e5 : ((0 : Int) == 0) = true := rfl
          have HK := Lib.hid hk
          have HE := Lib.hid he
          clear hk
          go_wp2_with fail
          refine (Fault_err w7 W.heap.size g v lim out.2.1 out.2.2 _ rF7 HE.out).mono ?_
          rintro en w8 ⟨rfl, b8⟩
          have rF8 := rF7.at b8
          have rC8 := rC7.below b8 rC7.lt
          have rB8 := rB7.trans (b8.mono rB7.size)
          clear m1 m2 rC7 rB7 rF7 b8
          have m1 := (rC8.cell 1).trans rfl
          go_wp2_with fail
          refine (Held_any w8 W.heap.size g v lim out.2.1 out.2.2 _ rF8).mono ?_
          rintro en w9 ⟨rfl, rfl⟩
          rw [HK.out]
          go_wp2_with fail
          go_ret
          exact ⟨rfl, rB8⟩
end Go.Proofs.Ytcjlpedpiljnmaa.W
