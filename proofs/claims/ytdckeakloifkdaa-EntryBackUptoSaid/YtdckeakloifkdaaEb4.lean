/- EntryBack: the copy is still the entry, marks too (walk). -/
import Derived.Test.YtdckeakloifkdaaEb3
namespace Go.Proofs.Ytdckeakloifkdaa.W
open Go.RowKit Go.Proofs.YtdckeakloifkdaaW.PrintWords Go.Proofs.YtdckeakloifkdaaW.PrintLast Go.Proofs.Ytdckeakloifkdaa.GM
set_option linter.unusedVariables false
set_option linter.unusedSimpArgs false
theorem entrySpared_any (K : Nat) (line : Int) (name : ByteArray) (k : List ByteArray) (l : List S37) (A : Option Addr) (c : Nat) (A' : Option Addr) (c' : Nat) (Ak : Option Addr) (ck : Nat) (Aa : Option Addr) (ca : Nat) (w : World)
    (hl : k.length + 1 ≤ c) (hK : Kd.string.C w A (k.length + 1) (k ++ [SPB])) (hl' : l.length + 1 ≤ c') (hQ : Kd.C k37q w A' (l.length + 1) (l.map up ++ [zq]))
    (hrk : Kd.C Kd.string w Ak k.length k) (hck : k.length ≤ ck) (hra : Kd.C k37 w Aa l.length l) (hca : l.length ≤ ca)
    (hk : k.length ≤ 1048576) (hn : l.length ≤ 1048576) (hx : ∀ a ∈ l, a.f2.length ≤ 1048576) (hs : rosterlaw08_sameAttrs.f K l l = some true) (he : rosterlaw08_sameEntry.f K line name k l line name k l = some true) :
    Calls Try.prog 8 #[.agg #[.int .i64 line, .string name, .slice A k.length c, .slice A' l.length c'], .agg #[.int .i64 line, .string name, .slice Ak k.length ck, .slice Aa l.length ca]] w fun en w' => en = .returned (.bool true) ∧ Below w.heap.size w w' := by
  have HK := Lib.hid hK
  have HQ := Lib.hid hQ
  have HRK := Lib.hid hrk
  have HRA := Lib.hid hra
  have HX := Lib.hid hx
  have HS := Lib.hid hs
  have HE := Lib.hid he
  clear hK hQ hrk hra hx hs he
  go_enter Try.func8, Try.ntmps8
  go_wp2_with fail
  refine gen2 (w := w) (G := fun W => Calls _ _ _ W _) fun W0 hB0 hz0 kA kB => ?_
  refine (attrsSpared_any K l A' c' Aa ca W0 hl' (Kd.C_below HQ.out hB0) (Kd.C_below HRA.out hB0) hca hn HX.out HS.out).mono ?_
  rintro en w1 ⟨rfl, b1⟩
  have kA1 := kA.below b1 kA.lt
  have kB1 := kB.below b1 kB.lt
  have B1 : Below w.heap.size w w1 := hB0.trans (b1.mono (by omega))
  have HB1 := Lib.hid B1
  have x0 := (kA1.cell 0).trans rfl
  have x1 := (kA1.cell 1).trans rfl
  have x2 := (kA1.cell 2).trans rfl
  have x3 := (kA1.cell 3).trans rfl
  have y0 := (kB1.cell 0).trans rfl
  have y1 := (kB1.cell 1).trans rfl
  have y2 := (kB1.cell 2).trans rfl
  have y3 := (kB1.cell 3).trans rfl
  have KA := Lib.hid kA1
  have KB := Lib.hid kB1
  clear kA kB kA1 kB1 b1 B1
  go_wp2_with fail
  refine (rosterlaw08_sameEntry.calls K line name A c k A' c' l line name Ak ck k Aa ca l true w1 (C_pre (Kd.C_below HK.out HB1.out)) (by omega) (room_C (Kd.C_below HQ.out HB1.out)) (by omega) (Kd.C_below HRK.out HB1.out) hck (Kd.C_below HRA.out HB1.out) hca HE.out).mono ?_
  rintro en w2 ⟨rfl, b2⟩
  have kA2 := KA.out.below b2 KA.out.lt
  have B2 : Below w.heap.size w w2 := below_step HB1.out b2
  have HB2 := Lib.hid B2
  have z2 := (kA2.cell 2).trans rfl
  clear x0 x1 x2 x3 y0 y1 y2 y3 b2 kA2 B2
  go_wp2_with fail
  refine (spared_any k A c w2 (by rw [List.length_append, List.length_singleton]; exact hl) (by rw [List.length_append, List.length_singleton]; exact Kd.C_below HK.out HB2.out) hk).mono ?_
  rintro en w3 ⟨rfl, b3⟩
  have HB3 := Lib.hid (below_step HB2.out b3)
  clear b3 z2
  go_wp2
  go_ret
  exact ⟨rfl, HB3.out⟩
end Go.Proofs.Ytdckeakloifkdaa.W
