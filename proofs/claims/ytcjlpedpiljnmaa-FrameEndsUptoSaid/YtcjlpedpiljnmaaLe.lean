/- Walk of the statement FrameEnds: it comes to true. -/
import Derived.Test.YtcjlpedpiljnmaaFtw
import Derived.Test.YtcjlpedpiljnmaaFq
import Derived.Test.YtcjlpedpiljnmaaFWl
namespace Go.Proofs.Ytcjlpedpiljnmaa.W
open Go.RowKit Go.Proofs.YtcjlpedpiljnmaaW.PrintWords Go.Proofs.YtcjlpedpiljnmaaW.PrintLast Go.Proofs.Ytcjlpedpiljnmaa.GP
set_option linter.unusedVariables false
set_option linter.unusedSimpArgs false

theorem byte_str (W : World) (c : Int) : (convert 50 9 (.slice (some ⟨W.heap.size, 0, none⟩) 1 1)).run Try.prog (W.alloc (.cells #[.int .u8 c] 5)) = .ok (.string (strOfNums [c])) (W.alloc (.cells #[.int .u8 c] 5)) := by
  refine string_of_reads (e := 5) (xs := [c]) Try.underlying50 Try.underlying5 Try.underlying9 ⟨rfl, by decide, fun _ => ⟨_, rfl, fun j hj => ?_⟩⟩
  obtain rfl : j = 0 := by omega
  exact ((At.new W 5 #[.int .u8 c]).cell 0).trans rfl
theorem short_f (s : ByteArray) : ∃ b, rosterlaw03_short.f s = some b ∧ b.size ≤ 4096 ∧ b.size ≤ s.size := by
  unfold rosterlaw03_short.f
  by_cases c : (s.size : Int) > 4096
  · rw [if_pos c, if_pos (by omega), if_pos (by omega)]
    exact ⟨_, rfl, by simp; omega, by simp; omega⟩
  · rw [if_neg c]
    exact ⟨_, rfl, by omega, Nat.le_refl _⟩
/-- What a message made by wrap is: its header is whole, its size is told by it. -/
structure Msg (m : ByteArray) (a n : Int) : Prop where
  a2 : 2 ≤ a
  a6 : a ≤ 6
  n0 : 0 ≤ n
  size : (m.size : Int) = a + n
  look : ∀ limit : Int, a + n ≤ limit → lookS limit m = (a, n, 0)
theorem wrap_msg (form : Int) (b : ByteArray) (hb : b.size ≤ 4096) : ∃ k m a, rosterlaw03_wrap.f k form b = some m ∧ Msg m a b.size := by
  obtain ⟨k, hk⟩ : ∃ k, k = wrapK form b.size := ⟨_, rfl⟩
  have kr : 0 ≤ k ∧ k ≤ 4 ∧ (k = 0 → (b.size : Int) < 128) ∧ (k = 1 → (b.size : Int) < 256) := by
    rw [hk]
    unfold wrapK
    repeat' split
    all_goals omega
  obtain ⟨k0, k4, kc, kc1⟩ := kr
  have hwr := wrap_f form b hb 0
  rw [← hk] at hwr
  have hlen := wrapH_len k b.size k0 k4
  have hz : (strOfNums (wrapH k b.size) ++ b).size = (wrapH k b.size).length + b.size := by rw [ByteArray.size_append, wstr_size]
  refine ⟨_, _, 2 + k, hwr, by omega, by omega, by omega, by omega, fun limit hl => ?_⟩
  have h := wrap_look limit k b.size k0 k4 (by omega) (by omega) kc kc1 b (strOfNums (wrapH k b.size) ++ b).size (Nat.le_refl _) (by omega)
  rw [extract_whole, if_neg (by omega)] at h
  exact h
/-- A message that is whole, something behind it. -/
theorem cut_msg (limit a n : Int) (m u : ByteArray) (hm : Msg m a n) (hl : a + n ≤ limit) : cutAt limit (m ++ u) 0 = (m :: (cutAt limit (m ++ u) m.size).1, (cutAt limit (m ++ u) m.size).2) := by
  have hs := hm.size
  have h2 := hm.a2
  have h0 := hm.n0
  have hz : (m ++ u).size = m.size + u.size := ByteArray.size_append
  have hk := hm.look limit hl
  have hmo := look_more limit m u (by rw [hk]) (by rw [hk]; exact h2) (by rw [hk]; simp only; omega)
  rw [cutAt_in (by omega), extract_whole, hmo, hk, if_neg (by simp)]
  have m0 : missS (a, n, 0) ((m ++ u).size : Int) = 0 := by
    unfold missS
    rw [if_neg (fun z => by have := z.1; simp at this; omega), if_pos rfl, if_neg (by simp only; omega)]
  rw [m0, if_neg (by omega)]
  have e : (a + n).toNat = m.size := by omega
  simp only [e, Nat.zero_add]
  rw [ext_front m u _ (Nat.le_refl _), extract_whole]
theorem cut_ends (limit a n c : Int) (m : ByteArray) (hm : Msg m a n) (hl : a + n ≤ limit) (h0 : 0 ≤ c) (h1 : c < 256) (hc : c ≠ 48) : cutAt limit (m ++ strOfNums [c]) 0 = ([m], (m.size : Int), 30) := by
  have hz : (m ++ strOfNums [c]).size = m.size + 1 := by rw [ByteArray.size_append, wstr_size]; rfl
  have ex := ext_app m (strOfNums [c]) m.size (Nat.le_refl _)
  have en : m.extract m.size m.size = ⟨#[]⟩ := by
    apply ByteArray.ext
    simp
  rw [en, nil_app] at ex
  have lk : lookS limit (strOfNums [c]) = (0, 0, 30) := by
    have e : byt (strOfNums [c]) 0 = c := by
      have := byt_app [c] ⟨#[]⟩ 0 (by simp) ⟨by simpa using h0, by simpa using h1⟩
      rw [app_nil] at this
      simpa using this
    unfold lookS
    rw [if_neg (by rw [wstr_size]; simp), e, if_pos hc]
  rw [cut_msg limit a n m _ hm hl, cutAt_in (by omega), ex, lk, if_pos (by simp)]

set_option maxRecDepth 100000 in
set_option maxHeartbeats 8000000 in
theorem ends_any (limit : Int) (first : ByteArray) (bad : Int) (A : Option Addr) (c : Nat) (later : List ByteArray) (w : World) (hC : Kd.C Kd.string w A later.length later) (hc : later.length ≤ c) (hb : (Lit.int .i64 bad).wf = true)
    (hz : first.size ≤ 1048576) (hl : later.length ≤ 1048576) (hlz : ∀ x ∈ later, x.size ≤ 1048576) :
    Calls Try.prog 8 #[.int .i64 limit, .string first, .int .i64 bad, .slice A later.length c] w fun en w' => en = .returned (.bool true) ∧ Below w.heap.size w w' := by
  obtain ⟨b, hsf, hb1, hb2⟩ := short_f first
  obtain ⟨k, m, a, hwf, hM⟩ := wrap_msg 0 b hb1
  have hms := hM.size
  have ha2 := hM.a2
  have ha6 := hM.a6
  obtain ⟨lim, hlim⟩ : ∃ lim : Int, lim = if limit < (m.size : Int) then (m.size : Int) else limit := ⟨_, rfl⟩
  have hml : a + (b.size : Int) ≤ lim := by rw [hlim]; split <;> omega
  have hbr := wf_i64 hb
  obtain ⟨cc, hcc⟩ : ∃ cc : Int, cc = if bad % 256 = 48 then 49 else bad % 256 := ⟨_, rfl⟩
  have hcr : 0 ≤ cc ∧ cc < 256 ∧ cc ≠ 48 := by rw [hcc]; split <;> omega
  have hcut := cut_ends lim a b.size cc m hM hml hcr.1 hcr.2.1 hcr.2.2
  obtain ⟨U, hU⟩ : ∃ U, m ++ strOfNums [cc] = U := ⟨_, rfl⟩
  rw [hU] at hcut
  have hUz : U.size = m.size + 1 := by rw [← hU, ByteArray.size_append, wstr_size]; rfl
  have hUle : U.size ≤ 5000 := by omega
  have HCU := Lib.hid hcut
  have HU := Lib.hid hU
  have HLIM := Lib.hid hlim
  have HCC := Lib.hid hcc
  have HSF := Lib.hid hsf
  have HWF := Lib.hid hwf
  have HC := Lib.hid hC
  have HLZ := Lib.hid hlz
  have hmz : m.size ≤ 5000 := by omega
  clear hcut hU hlim hcc hsf hwf hC hlz hM hUz hms hml hbr hb
  go_enter Try.func8, Try.ntmps8
  go_wp2_with fail
  refine (rosterlaw03_short.calls first b _ HSF.out).mono ?_
  rintro en w1 ⟨rfl, nd, rfl⟩
  go_wp2_with fail
  refine (rosterlaw03_wrap.calls k 0 b m _ HWF.out).mono ?_
  rintro en w1 ⟨rfl, b1⟩
  have B1 : Below w.heap.size w w1 := ⟨b1.os, b1.tape, b1.output, b1.size, b1.block⟩
  clear b1
  go_upto_if 23 with fail
  go_cut [0] from 24 (fun v0 wx => v0 = .int .i64 lim ∧ wx = w1)
  case first =>
    by_cases h : limit < (m.size : Int)
    · have e := HLIM.out
      rw [if_pos h] at e
      subst e
      go_wp2_with fail
      go_meet
      case rel => exact ⟨rfl, rfl⟩
    · have e := HLIM.out
      rw [if_neg h] at e
      subst e
      go_wp2_with fail
      go_meet
      case rel => exact ⟨rfl, rfl⟩
  case rest =>
    obtain ⟨rfl, rfl⟩ := hcut
    go_upto_if 29 with fail
    go_cut [10] from 28 (fun v0 wx => v0 = .int .u8 cc ∧ wx = wc)
    case first =>
      by_cases h : bad % 256 = 48
      · have e := HCC.out
        rw [if_pos h] at e
        have hbq : (bad % 256 == 48) = true := by simp [h]
        subst e
        clear h
        go_wp2_with fail
        go_meet
        case rel => exact ⟨rfl, rfl⟩
      · have e := HCC.out
        rw [if_neg h] at e
        have hbq : (bad % 256 == 48) = false := by simp [h]
        have E := Lib.hid e
        clear e
        go_wp2_with fail
        go_meet
        case rel => exact ⟨by rw [E.out], rfl⟩
    case rest =>
      obtain ⟨rfl, rfl⟩ := hcut
      go_wp2_with fail
      refine (New_st lim _).mono ?_
      rintro en w2 ⟨g, rfl, hg, hF, hB2⟩
      have B2 : Below w.heap.size w w2 := B1.trans (hB2.mono B1.size)
      have z1 : w.heap.size ≤ wc.heap.size := B1.size
      have hbs := byte_str w2 cc
      have hcv := fun V => str_conv U V
      have HUo := HU.out
      have hss : (strOfNums [cc]).size = 1 := by rw [wstr_size]; rfl
      have hcat : m.size + (strOfNums [cc]).size ≤ 9223372036854775807 := by omega
      have hcat2 : (m.size : Int) + 1 ≤ 9223372036854775807 := by omega
      have hF1 : FrSt (w2.alloc (.cells #[.int .u8 cc] 5)) wc.heap.size g (.slice none 0 0) lim ⟨#[]⟩ := hF.at ((Below.refl _ _).alloc (Nat.le_refl _) _)
      have B3 : Below w.heap.size w (w2.alloc (.cells #[.int .u8 cc] 5)) := B2.alloc B2.size _
      have HF1 := Lib.hid hF1
      have HB3 := Lib.hid B3
      have z2 : wc.heap.size ≤ w2.heap.size := by have := hB2.size; omega
      clear hF hF1 hB2 B2 B3 B1
      go_wp2_with fail
      have e1 : (w2.alloc (.cells #[.int .u8 cc] 5)).heap.size = w2.heap.size + 1 := by simp
      have hC3 := str_reads (w2.alloc (.cells #[.int .u8 cc] 5)) U (by omega)
      rw [e1] at hC3
      have hBV := str_below (w2.alloc (.cells #[.int .u8 cc] 5)) U
      have hFV := HF1.out.at hBV
      have BV : Below w.heap.size w (Lib.bytesWorld (w2.alloc (.cells #[.int .u8 cc] 5)) 5 U) := HB3.out.trans (hBV.mono HB3.out.size)
      have WB : wc.heap.size ≤ (Lib.bytesWorld (w2.alloc (.cells #[.int .u8 cc] 5)) 5 U).heap.size := by have := hBV.size; rw [e1] at this; omega
      refine (Feed_pre _ wc.heap.size g (.slice none 0 0) lim ⟨#[]⟩ U _ _ hFV hC3 (grownCap_ge _ _ _ _) WB (by show 0 + U.size ≤ _; omega)).mono ?_
      rintro en w5 ⟨v0, v', m', rfl, hm, hRm, hF5, ho, hT⟩
      have e0 : cutAt lim ⟨#[]⟩ 0 = ([], 0, 0) := cutAt_end (Nat.le_refl _)
      unfold FrSt at hF5
      rw [nil_app, HCU.out] at hm hF5 ⊢
      rw [e0, List.nil_append] at hm
      simp only at hm
      subst hm
      have hF5' : FrAt w5 wc.heap.size g v' lim ⟨#[]⟩ (m.size : Int) 30 := hF5
      have B5 : Below w.heap.size w w5 := hT.base hFV BV BV.size (by omega) z1
      obtain ⟨gm, cm, rfl, gm1, gm2, -⟩ := Kd.R_form hRm (by simp)
      have hcell : w5.cell? ⟨gm, 0, none⟩ = some (.string m) := (Kd.R_cell ByteArray.empty hRm 0 (by simp) (by simp)).1
      have HF5 := Lib.hid hF5'
      have HB5 := Lib.hid B5
      clear hss hcat hcat2 hF5 hF5' B5 hT ho hRm hFV BV hBV hC3 WB e1 hcv hbs HUo e0 HF1 HB3
      have t1 : ((30 : Int) != 30) = false := rfl
      go_wp2_with fail
      clear hcell
      go_loopw [12, 13, 14] (fun _ _ vi wr => ∃ i : Nat, i ≤ later.length ∧ vi = .int .i64 i ∧ FrAt wr wc.heap.size g v' lim ⟨#[]⟩ (m.size : Int) 30 ∧ Below w.heap.size w wr)
        (fun _ _ i _ => later.length - (intOf i).toNat)
      case atStart => exact ⟨0, Nat.zero_le _, rfl, HF5.out, HB5.out⟩
      case round =>
        obtain ⟨i, hi, rfl, hF, rB⟩ := hrel
        by_cases hil : i < later.length
        · obtain ⟨u, hu⟩ : ∃ u, u = later.getD i ⟨#[]⟩ := ⟨_, rfl⟩
          have huz : u.size ≤ 1048576 := by
            rw [hu, List.getD_eq_getElem?_getD, List.getElem?_eq_getElem hil]
            exact HLZ.out _ (List.getElem_mem _)
          obtain ⟨fa, cF, eF, _, hK, hcF⟩ := Kd.C_get (Kd.C_below HC.out rB) ⟨#[]⟩ (i : Int) (by omega) (by omega)
          have hK' : cF = [.string (later.getD (i : Int).toNat ⟨#[]⟩)] := hK
          rw [Int.toNat_natCast, ← hu] at hK'
          subst hK'
          subst eF
          have hcell := hcF 0 _ rfl
          have e3 : (i : Int).toNat * Kd.sz Kd.string + 0 = i := by show (i : Int).toNat * 1 + 0 = i; omega
          rw [e3] at hcell
          have hcv := fun V => str_conv u V
          have hBV := str_below wr u
          have hFV := hF.at hBV
          have BV : Below w.heap.size w (Lib.bytesWorld wr 5 u) := rB.trans (hBV.mono rB.size)
          have HFV := Lib.hid hFV
          have HBV := Lib.hid BV
          have q0 : (0 : Int) ≤ i := by omega
          have q1 : (i : Int) < later.length := by omega
          clear hu hK hcF e3 hF rB hBV hFV BV
          go_wp2_with fail
          refine (Feed_bad _ wc.heap.size g v' lim (m.size : Int) 30 ⟨#[]⟩ _ _ _ HFV.out (by decide)).mono ?_
          rintro en w6 ⟨rfl, b6⟩
          have hF6 := HFV.out.at b6
          have B6 : Below w.heap.size w w6 := HBV.out.trans (b6.mono HBV.out.size)
          have HF6 := Lib.hid hF6
          clear hcell hcv HFV HBV b6 hF6
          go_wp2_with fail
          refine (Held_any w6 wc.heap.size g v' lim (m.size : Int) 30 ⟨#[]⟩ HF6.out).mono ?_
          rintro en w7 ⟨rfl, rfl⟩
          have ez : ((⟨#[]⟩ : ByteArray).size : Int) = 0 := rfl
          rw [ez]
          have t2 : ((0 : Int) != 0) = false := rfl
          go_wp2_with fail
          refine (FrNeed_err w6 wc.heap.size g v' lim (m.size : Int) 30 ⟨#[]⟩ HF6.out (by decide)).mono ?_
          rintro en w7 ⟨rfl, b7⟩
          have hF7 := HF6.out.at b7
          have B7 := B6.trans (b7.mono B6.size)
          clear HF6 B6 b7
          go_wp2
          go_roundw
          case rel => exact ⟨i + 1, by omega, by go_num, hF7, B7⟩
          case measure => simp [intOf]; omega
        · obtain rfl : i = later.length := by omega
          have t3 : ((30 : Int) == 30) = true := rfl
          have t4 : ((m.size : Int) == (m.size : Int)) = true := beq_self_eq_true _
          have HF := Lib.hid hF
          clear hF
          go_wp2_with fail
          refine (Fault_err wr wc.heap.size g v' lim (m.size : Int) 30 ⟨#[]⟩ HF.out (by decide)).mono ?_
          rintro en w6 ⟨rfl, b6⟩
          have B6 := rB.trans (b6.mono rB.size)
          clear b6 rB
          go_wp2_with fail
          go_ret
          exact ⟨rfl, B6⟩
end Go.Proofs.Ytcjlpedpiljnmaa.W
