/- EntryBack: the walk of the statement. -/
import Derived.Test.YtdckeakloifkdaaEb4
namespace Go.Proofs.Ytdckeakloifkdaa.W
open Go.RowKit Go.Proofs.YtdckeakloifkdaaW.PrintWords Go.Proofs.YtdckeakloifkdaaW.PrintLast Go.Proofs.Ytdckeakloifkdaa.GM
set_option linter.unusedVariables false
set_option linter.unusedSimpArgs false
theorem back_any (K : Nat) (line : Int) (name : ByteArray) (k : List ByteArray) (l : List S37) (Ak : Option Addr) (ck : Nat) (Aa : Option Addr) (ca : Nat) (ps : List S39) (w : World)
    (hrk : Kd.C Kd.string w Ak k.length k) (hck : k.length ≤ ck) (hra : Kd.C k37 w Aa l.length l) (hca : l.length ≤ ca)
    (hk : k.length ≤ 1048576) (hn : l.length ≤ 1048576) (hx : ∀ a ∈ l, a.f2.length ≤ 1048576) (h1 : rosterlaw08_roomy.f k = some k) (h2 : copyQ.f K l = some (l.map up ++ [zq])) (hs : rosterlaw08_sameAttrs.f K l l = some true) (he : rosterlaw08_sameEntry.f K line name k l line name k l = some true)
    (hb : entry_Back.f K line name k l = some (line, name, ps)) (hr : rosterref08_Back.f K line name k l = some (line, name, ps)) (hq : rosterlaw08_sameRecord.f K line name ps line name ps = some true) :
    Calls Try.prog 3 #[.agg #[.int .i64 line, .string name, .slice Ak k.length ck, .slice Aa l.length ca]] w fun en w' => en = .returned (.bool true) ∧ Below w.heap.size w w' := by
  have HRK := Lib.hid hrk
  have HRA := Lib.hid hra
  have HX := Lib.hid hx
  have HS := Lib.hid hs
  have HE := Lib.hid he
  have H1 := Lib.hid h1
  have H2 := Lib.hid h2
  have HBk := Lib.hid hb
  have HRf := Lib.hid hr
  have HQ := Lib.hid hq
  clear hrk hra hx hs he h1 h2 hb hr hq
  go_enter Try.func3, Try.ntmps3
  go_wp2_with fail
  refine gen1 (w := w) (G := fun W => Calls _ _ _ W _) fun W0 hB0 hz0 kE => ?_
  refine (copyEntry_any K line name k Ak ck l Aa ca W0 (Kd.C_below HRK.out hB0) hck (Kd.C_below HRA.out hB0) hca H1.out H2.out).mono ?_
  rintro en w1 ⟨A, c, A', c', rfl, hl, hK, hl', hQm, b1⟩
  have HK := Lib.hid hK
  have HQm := Lib.hid hQm
  have KE1 := Lib.hid (kE.below b1 kE.lt)
  have HB1 := Lib.hid (below_step hB0 b1)
  clear hK hQm kE b1 hB0
  go_wp2_with fail
  refine gen1 (w := w1) (G := fun W => Calls _ _ _ W _) fun W1 hB1 hz1 kM => ?_
  refine (entry_Back.calls K line name A c k A' c' l line name ps W1 (C_pre (Kd.C_below HK.out hB1)) (by omega) (room_C (Kd.C_below HQm.out hB1)) (by omega) HBk.out).mono ?_
  rintro en w2 ⟨v2, rfl, hP, b2⟩
  obtain ⟨Ap, cp, rfl, hcp, hCp⟩ := Kd.R_reads hP
  have B12 : Below w1.heap.size w1 w2 := below_step hB1 b2
  have kM2 := kM.below b2 kM.lt
  have kE2 := KE1.out.below B12 KE1.out.lt
  have x0 := (kE2.cell 0).trans rfl
  have x1 := (kE2.cell 1).trans rfl
  have x2 := (kE2.cell 2).trans rfl
  have x3 := (kE2.cell 3).trans rfl
  have el := kE2.lt
  have HCp := Lib.hid hCp
  have KM2 := Lib.hid kM2
  have KE2 := Lib.hid kE2
  have HB12 := Lib.hid B12
  have HB2 := Lib.hid (below_step HB1.out B12)
  clear hP hCp kM kM2 kE2 B12 hB1 b2 KE1
  go_wp2_with fail
  refine gen1 (w := w2) (G := fun W => Calls _ _ _ W _) fun W2 hB2 hz2 kR => ?_
  have B2 := below_step HB2.out hB2
  refine (rosterref08_Back.calls K line name Ak ck k Aa ca l line name ps W2 (Kd.C_below HRK.out B2) hck (Kd.C_below HRA.out B2) hca HRf.out).mono ?_
  rintro en w3 ⟨v3, rfl, hP3, b3⟩
  obtain ⟨Aq, cq, rfl, hcq, hCq⟩ := Kd.R_reads hP3
  have B23 : Below w2.heap.size w2 w3 := below_step hB2 b3
  have kR3 := kR.below b3 kR.lt
  have y0 := (kR3.cell 0).trans rfl
  have y1 := (kR3.cell 1).trans rfl
  have y2 := (kR3.cell 2).trans rfl
  have rl := kR3.lt
  have KE3 := Lib.hid (KE2.out.below B23 KE2.out.lt)
  have KM3 := Lib.hid (KM2.out.below B23 KM2.out.lt)
  have HCp3 := Lib.hid (Kd.C_below HCp.out B23)
  have HCq := Lib.hid hCq
  have HB13 := Lib.hid (below_step HB12.out B23)
  have HB3 := Lib.hid (below_step HB2.out B23)
  clear hP3 hCq kR kR3 B23 hB2 b3 B2 x0 x1 x2 x3 el KE2 KM2 HCp HB12 HB2
  go_wp2_with fail
  refine gen1 (w := w3) (G := fun W => Calls _ _ _ W _) fun W3 hB3 hz3 kS => ?_
  refine (rosterlaw08_sameRecord.calls K line name Ap cp ps line name Aq cq ps true W3 (Kd.C_below HCp3.out hB3) hcp (Kd.C_below HCq.out hB3) hcq HQ.out).mono ?_
  rintro en w4 ⟨rfl, b4⟩
  have B34 : Below w3.heap.size w3 w4 := below_step hB3 b4
  have kE4 := KE3.out.below B34 KE3.out.lt
  have kM4 := KM3.out.below B34 KM3.out.lt
  have x0 := (kE4.cell 0).trans rfl
  have x1 := (kE4.cell 1).trans rfl
  have x2 := (kE4.cell 2).trans rfl
  have x3 := (kE4.cell 3).trans rfl
  have m0 := (kM4.cell 0).trans rfl
  have m1 := (kM4.cell 1).trans rfl
  have m2 := (kM4.cell 2).trans rfl
  have m3 := (kM4.cell 3).trans rfl
  have HB4 := Lib.hid (below_step HB3.out B34)
  have HB14 := Lib.hid (below_step HB13.out B34)
  clear kE4 kM4 y0 y1 y2 rl B34 b4 hB3 kS
  go_wp2_with fail
  refine (entrySpared_any K line name k l A c A' c' Ak ck Aa ca w4 hl (Kd.C_below HK.out HB14.out) hl' (Kd.C_below HQm.out HB14.out) (Kd.C_below HRK.out HB4.out) hck (Kd.C_below HRA.out HB4.out) hca hk hn HX.out HS.out HE.out).mono ?_
  rintro en w5 ⟨rfl, b5⟩
  have HB5 := Lib.hid (below_step HB4.out b5)
  clear b5 x0 x1 x2 x3 m0 m1 m2 m3
  go_wp2
  go_ret
  exact ⟨rfl, HB5.out⟩
end Go.Proofs.Ytdckeakloifkdaa.W
