/- Walk of the statements' own step: a chunk is fed to both. -/
import Derived.Test.YtcjlpedpiljnmaaStp
namespace Go.Proofs.Ytcjlpedpiljnmaa.W
open Go.RowKit Go.Proofs.YtcjlpedpiljnmaaW.PrintWords Go.Proofs.YtcjlpedpiljnmaaW.PrintLast Go.Proofs.Ytcjlpedpiljnmaa.GP
set_option linter.unusedVariables false
set_option linter.unusedSimpArgs false

set_option maxRecDepth 100000 in
set_option maxHeartbeats 8000000 in
theorem step_feed (w : World) (B g gr : Nat) (v : Value) (limit : Int) (pre chunk : ByteArray) (h : Both w B g gr v limit pre) (hB : B ≤ w.heap.size) (hs : pre.size + chunk.size ≤ 16777216) :
    Calls Try.prog 25 #[.pointer (some ⟨g, 0, none⟩), .pointer (some ⟨gr, 0, none⟩), .agg #[.int .i64 1, .string chunk]] w (StepEnd w B g gr v limit pre chunk) := by
  have hgr : g ≠ gr := h.fr.mem.ne h.rf (by decide)
  have hgl := h.fr.mem.lt
  have hrl := h.rf.lt
  have hov : ∀ q, v.ownBlock = some q → q < w.heap.size := fun q hq => (held_typed h.fr.row hq).2.1
  have bA : Below w.heap.size w (w.alloc (.cells #[.int .i64 1, .string chunk] 46)) := (Below.refl _ _).alloc (Nat.le_refl _) _
  have hA := h.below bA
  obtain ⟨S, hS⟩ : ∃ S, chunk ++ spare = S := ⟨_, rfl⟩
  have hSz : S.size = chunk.size + 13 := by rw [← hS]; exact ByteArray.size_append
  have hS2 : chunk ++ (⟨#[48, 1, 7, 49, 32, 97, 110, 100, 32, 109, 111, 114, 101]⟩ : ByteArray) = S := hS
  have hcat : chunk.size + 13 ≤ 9223372036854775807 := by omega
  have hcat2 : (chunk.size : Int) + 13 ≤ 9223372036854775807 := by omega
  have hSn : (numsOf S).take chunk.size = numsOf chunk := by rw [← hS, nums_app, List.take_append_of_le_length (by rw [nums_len]; exact Nat.le_refl _), List.take_of_length_le (by rw [nums_len]; exact Nat.le_refl _)]
  have e1 : (w.alloc (.cells #[.int .i64 1, .string chunk] 46)).heap.size = w.heap.size + 1 := by simp
  obtain ⟨cap, hcap⟩ : ∃ cap, cap = grownCap (w.alloc (.cells #[.int .i64 1, .string chunk] 46)) S.size 0 5 := ⟨_, rfl⟩
  have hcapS : S.size ≤ cap := by rw [hcap]; exact grownCap_ge _ _ _ _
  obtain ⟨W2, hW2⟩ : ∃ V, V = Lib.bytesWorld (w.alloc (.cells #[.int .i64 1, .string chunk] 46)) 5 S := ⟨_, rfl⟩
  have hcv := str_conv S (w.alloc (.cells #[.int .i64 1, .string chunk] 46))
  rw [← hcap, ← hW2, e1] at hcv
  have hcv0 : (convert 9 50 (.string (chunk ++ (⟨#[48, 1, 7, 49, 32, 97, 110, 100, 32, 109, 111, 114, 101]⟩ : ByteArray)))).run Try.prog (w.alloc (.cells #[.int .i64 1, .string chunk] 46)) = .ok (.slice (some ⟨w.heap.size + 1, 0, none⟩) S.size cap) W2 := by rw [hS2]; exact hcv
  have hb2 := str_below (w.alloc (.cells #[.int .i64 1, .string chunk] 46)) S
  have hm2 := AtM.new (w.alloc (.cells #[.int .i64 1, .string chunk] 46)) S
  have hy2 := Bys.new (w.alloc (.cells #[.int .i64 1, .string chunk] 46)) S
  rw [← hW2] at hb2 hm2
  rw [e1] at hm2
  generalize Lib.bytesCells (w.alloc (.cells #[.int .i64 1, .string chunk] 46)) 5 S = cur0 at hm2 hy2
  have hA2 := hA.below hb2
  have bA2 : Below w.heap.size w W2 := bA.trans (hb2.mono bA.size)
  have z2 : w.heap.size + 1 < W2.heap.size := by have := hm2.lt; omega
  have WB : B ≤ W2.heap.size := by omega
  have c1 := (hA2.rf.cell 0).trans rfl
  have opk := ((At.new w 46 #[.int .i64 1, .string chunk]).below hb2 (At.new w 46 #[.int .i64 1, .string chunk]).lt)
  have HA2 := Lib.hid hA2
  have BA2 := Lib.hid bA2
  have HM2 := Lib.hid hm2
  have HY2 := Lib.hid hy2
  have HSN := Lib.hid hSn
  have HSZ := Lib.hid hSz
  have HSE := Lib.hid hS2
  have p1 := (opk.cell 1).trans rfl
  have OPK := Lib.hid opk
  clear hcv hS2 h hA bA hS hSz hSn hcap hW2 hb2 hm2 hy2 hA2 bA2 e1 c1 opk
  go_enter Try.func25, Try.ntmps25
  go_wp2_with fail
  refine (RFeed_any W2 gr limit pre chunk HA2.out.rf hs).mono ?_
  rintro en w3 ⟨v0, m, rfl, hm, ⟨An, cn, rfl, hmn, hC⟩, hR3, hG⟩
  have hG3 : W2.grownBy w3 (some gr) := hG
  have z3 := hG3.size
  have hF3 := FrAt.other HA2.out.fr HA2.out.rf (by decide) (by decide) hG3
  have hF3' : FrSt w3 B g v limit pre := hF3
  have hM3 : AtM w3 (w.heap.size + 1) cur0 := (hG3.block _ z2 (fun e => by injection e with e; omega)).trans HM2.out
  have hO3 : At w3 w.heap.size 46 #[.int .i64 1, .string chunk] := (hG3.block _ (by omega) (fun e => by injection e with e; omega)).trans OPK.out
  have hT3 : Tri w w3 g gr v.ownBlock := (Tri.below BA2.out).and hG3.os hG3.tape hG3.output hG3.size (fun i hi _ h2 _ => hG3.block i (by omega) (fun e => h2 (by injection e)))
  have hC3 := hM3.reads HY2.out (by rw [nums_len, HSZ.out]; omega) chunk.size (by rw [nums_len, HSZ.out]; omega)
  rw [HSN.out] at hC3
  obtain ⟨i0, hi0, hz0, hz1, hz2⟩ := info_parts infoU8f
  have hcut : ∀ W : World, (Instr.slice 50 (.slice (some ⟨w.heap.size + 1, 0, none⟩) S.size cap) none (some (.int .i64 (chunk.size : Int))) none).run Try.prog W = .ok (.slice (some ⟨w.heap.size + 1, 0, none⟩) chunk.size cap) W := by
    intro W
    have := cut_to 50 5 .i64 Try.underlying50 hi0 (some ⟨w.heap.size + 1, 0, none⟩) S.size cap (chunk.size : Int) (by omega) (by rw [HSZ.out]; omega) hcapS W
    rw [this]
    simp
  obtain ⟨er, her⟩ : ∃ er, er = (cutAt limit (pre ++ chunk) 0).2.2 := ⟨_, rfl⟩
  rw [← her]
  have o0 := (hO3.cell 0).trans rfl
  have o1 := (hO3.cell 1).trans rfl
  have HF3 := Lib.hid hF3'
  have HC3 := Lib.hid hC3
  have HM3 := Lib.hid hM3
  have HR3 := Lib.hid hR3
  have HT3 := Lib.hid hT3
  have HO3 := Lib.hid hO3
  have HER := Lib.hid her
  have HM := Lib.hid hm
  have HCn := Lib.hid hC
  clear hG hG3 hF3 hF3' hM3 hO3 hT3 hC3 hi0 hz0 hz1 hz2 her hm hC hR3 hcv0 p1 hcat hcat2 HA2 BA2 HM2 OPK
  go_wp2_with fail
  refine (Feed_pre w3 B g v limit pre chunk _ cap HF3.out HC3.out (by have := HSZ.out; omega) (by omega) hs).mono ?_
  rintro en w4 ⟨v1, v', m2, rfl, hm2, hR2, hF4, ho, hT⟩
  have hme : m2 = m := List.append_cancel_left (hm2.symm.trans HM.out)
  subst hme
  rw [← HER.out]
  obtain ⟨A2, c2, rfl, q2, hC2⟩ := Kd.R_reads hR2
  have z4 := hT.size
  have nov : ∀ i, w.heap.size ≤ i → some i ≠ v.ownBlock := fun i hi e => by have := hov i e.symm; omega
  have hR4 : RfAt w4 gr limit (pre ++ chunk) := hT.keep HF3.out HR3.out (by decide) (by decide)
  have hM4 : AtM w4 (w.heap.size + 1) cur0 := (hT.block _ HM3.out.lt (by omega) (nov _ (by omega))).trans HM3.out
  have hO4 : At w4 w.heap.size 46 #[.int .i64 1, .string chunk] := hT.at HO3.out (by omega) (nov _ (by omega))
  have hT4 : Tri w w4 g gr v.ownBlock := HT3.out.and hT.os hT.tape hT.output hT.size (fun i hi h1 _ h3 => hT.block i (by omega) h1 h3)
  have hCn4 : Kd.C Kd.string w4 An m2.length m2 := HCn.out w4 (fun i hi hl => hT.block i hl (by omega) (nov _ (by omega)))
  have hvb : v'.ownBlock ≠ some (w.heap.size + 1) := by
    intro e
    rcases ho with h | h | ⟨b, h, h2⟩
    · rw [h] at e; cases e
    · rw [h] at e; exact nov _ (by omega) e.symm
    · rw [h] at e; injection e with e; omega
  have hoe : v'.ownBlock = none ∨ v'.ownBlock = v.ownBlock ∨ ∃ b, v'.ownBlock = some b ∧ w.heap.size ≤ b := by
    rcases ho with h | h | ⟨b, h, h2⟩
    · exact .inl h
    · exact .inr (.inl h)
    · exact .inr (.inr ⟨b, h, by omega⟩)
  have hrow : Kd.R (Kd.int .u8) 5 w4 B (fun q => q ≠ w.heap.size + 1) v' (numsOf (keptS (pre ++ chunk) (cutAt limit (pre ++ chunk) 0))) :=
    Kd.R_of_own (Kd.own_of_R hF4.row) (fun q hq e => hvb (by rw [hq, e]))
  have hcv2 : (convert 50 9 (.slice (some ⟨w.heap.size + 1, 0, none⟩) S.size cap)).run Try.prog w4 = .ok (.string (chunk ++ (⟨#[48, 1, 7, 49, 32, 97, 110, 100, 32, 109, 111, 114, 101]⟩ : ByteArray))) w4 := by
    have h5 := hM4.reads HY2.out (by rw [nums_len, HSZ.out]; omega) S.size (by rw [nums_len]; exact Nat.le_refl _)
    rw [List.take_of_length_le (by rw [nums_len]; exact Nat.le_refl _)] at h5
    have := Kd.C_string (P := Try.prog) (src := 50) (dst := 9) (e := 5) (c := cap) Try.underlying50 Try.underlying5 Try.underlying9 h5
    rw [nums_str] at this
    rw [HSE.out]
    exact this
  have hcat : chunk.size + 13 ≤ 9223372036854775807 := by omega
  have hcat2 : (chunk.size : Int) + 13 ≤ 9223372036854775807 := by omega
  have hcnt := cut_count limit (pre ++ chunk) ((pre ++ chunk).size + 1) 0 (Nat.zero_le _) (by omega)
  have hpu : (pre ++ chunk).size = pre.size + chunk.size := ByteArray.size_append
  rw [hm2, hpu, List.length_append] at hcnt
  have hsame := rosterlaw03_same.calls _ A2 c2 m2 An cn m2 true w4 hC2 q2 hCn4 hmn (same_f m2 (by omega))
  have HSAME := Lib.hid hsame
  have o0 := (hO4.cell 0).trans rfl
  have o1 := (hO4.cell 1).trans rfl
  have hmem : At w4 g 104 #[.int .i64 limit, v', .int .i64 (cutAt limit (pre ++ chunk) 0).2.1, .int .i64 (cutAt limit (pre ++ chunk) 0).2.2] := hF4.mem
  have HMEM := Lib.hid hmem
  have HROW := Lib.hid hrow
  have HR4 := Lib.hid hR4
  have HM4 := Lib.hid hM4
  have HT4 := Lib.hid hT4
  have e2 : (er != er) = false := by simp
  have hSle : S.size ≤ 16777300 := by rw [HSZ.out]; omega
  have hpz : (pre ++ chunk).size ≤ pre.size + chunk.size := by omega
  clear hcut hR2 hF4 ho hT hm2 hC2 q2 hCn4 hmn hcnt hsame hmem hrow hR4 hM4 hO4 hT4 hpu HF3 HC3 HM3 HR3 HT3 HO3 HM HCn
  go_wp2_with fail
  refine HSAME.out.mono ?_
  rintro en w5 ⟨rfl, nd, rfl⟩
  have m5 : At (w4.drewN nd) g 104 #[.int .i64 limit, v', .int .i64 (cutAt limit (pre ++ chunk) 0).2.1, .int .i64 (cutAt limit (pre ++ chunk) 0).2.2] := HMEM.out.drewN nd
  have r5 := Kd.R_drewN HROW.out nd
  have f5 : RfAt (w4.drewN nd) gr limit (pre ++ chunk) := HR4.out
  have x5 : AtM (w4.drewN nd) (w.heap.size + 1) cur0 := HM4.out
  have t5 : Tri w (w4.drewN nd) g gr v.ownBlock := HT4.out.and rfl rfl rfl (Nat.le_refl _) (fun i _ _ _ _ => rfl)
  have M5 := Lib.hid m5
  have R5 := Lib.hid r5
  have F5 := Lib.hid f5
  have X5 := Lib.hid x5
  have T5 := Lib.hid t5
  clear o0 o1 HMEM HROW HR4 HM4 HT4 m5 r5 f5 x5 t5 hcv2 HSAME
  generalize w4.drewN nd = w5 at M5 R5 F5 X5 T5 ⊢
  go_wp2_with fail
  go_loopw [13] (fun vi wr => ∃ (i : Nat) (cur : Array Value), i ≤ S.size ∧ vi = .int .i64 i ∧ AtM wr (w.heap.size + 1) cur ∧ S.size ≤ cur.size ∧ (∀ j, j < S.size → ∃ x : Int, cur[j]? = some (.int .u8 x)) ∧
      At wr g 104 #[.int .i64 limit, v', .int .i64 (cutAt limit (pre ++ chunk) 0).2.1, .int .i64 (cutAt limit (pre ++ chunk) 0).2.2] ∧
      Kd.R (Kd.int .u8) 5 wr B (fun q => q ≠ w.heap.size + 1) v' (numsOf (keptS (pre ++ chunk) (cutAt limit (pre ++ chunk) 0))) ∧ RfAt wr gr limit (pre ++ chunk) ∧ Tri w wr g gr v.ownBlock)
    (fun i _ => S.size - (intOf i).toNat)
  case atStart =>
    refine ⟨0, cur0, Nat.zero_le _, rfl, X5.out, by have := HY2.out.1; rw [nums_len] at this; exact this, fun j hj => ⟨_, HY2.out.2 j (by rw [nums_len]; exact hj)⟩, M5.out, R5.out, F5.out, T5.out⟩
  case round =>
    obtain ⟨i, cur, hi, rfl, rX, hcs, hcx, rM, rR, rF, rT⟩ := hrel
    by_cases hil : i < S.size
    · obtain ⟨x, hx⟩ := hcx i hil
      have hcell := (rX.cell i).trans hx
      have hfr := rX.free i (by omega)
      have q0 : (0 : Int) ≤ i := by omega
      have q1 : (i : Int) < S.size := by omega
      have HX := Lib.hid rX
      have HCX := Lib.hid hcx
      have RM := Lib.hid rM
      have RR := Lib.hid rR
      have RF := Lib.hid rF
      have RT := Lib.hid rT
      clear rX hcx rM rR rF rT hx
      go_wp2
      go_roundw
      case rel =>
        refine ⟨i + 1, cur.setIfInBounds i _, by omega, by go_num, HX.out.set i _, by simpa using hcs, fun j hj => ?_, RM.out.far (by simp; omega) _, Kd.R_far RR.out (fun k hk => hk) _, At.far RF.out (by simp; omega) _,
          RT.out.and rfl rfl rfl (by simp [World.setCell]) (fun j hj _ _ _ => Below.heap_setCell _ _ _ j (by simp; omega))⟩
        by_cases hji : j = i
        · subst hji
          exact ⟨bits .xor .u8 x 255, by rw [Array.getElem?_setIfInBounds, if_pos rfl, if_pos (by omega)]⟩
        · obtain ⟨y, hy⟩ := HCX.out j hj
          refine ⟨y, ?_⟩
          rw [Array.getElem?_setIfInBounds, if_neg (fun e => hji e.symm)]
          exact hy
      case measure => simp [intOf]; omega
    · obtain rfl : i = S.size := by omega
      have HF : Hid (StepEnd w B g gr v limit pre chunk (.returned (.bool true)) wr) := ⟨v', pre ++ chunk, rfl, ⟨⟨rM, Kd.R_mono rR (fun _ _ => trivial)⟩, rF⟩, hpz, hoe, rT⟩
      clear rX rM rR rF rT hcx
      go_wp2_with fail
      go_ret
      exact HF.out
end Go.Proofs.Ytcjlpedpiljnmaa.W
