/- EntryBack: the copy of an entry (walk). -/
import Derived.Test.YtdckeakloifkdaaEb2
import Derived.Test.YtdckeakloifkdaaEm
namespace Go.Proofs.Ytdckeakloifkdaa.W
open Go.RowKit Go.Proofs.YtdckeakloifkdaaW.PrintWords Go.Proofs.YtdckeakloifkdaaW.PrintLast Go.Proofs.Ytdckeakloifkdaa.GM
set_option linter.unusedVariables false
set_option linter.unusedSimpArgs false
theorem set_R {α : Type} {d : Kd α} {e base : Nat} {ok : Nat → Prop} {v : Value} {xs : List α} {w : World} {a b : Nat} {ca cb : Array Value} (h : d.R e w base ok v xs) (kA : At w a 25 ca) (kB : At w b 25 cb) (hab : b ≠ a) (ht : ∀ q, q ∈ e :: d.E → q ≠ 25) (u v0 v1 v2 v3 : Value) :
    d.R e (((((w.setCell ⟨a, 3, none⟩ u).setCell ⟨b, 0, none⟩ v0).setCell ⟨b, 1, none⟩ v1).setCell ⟨b, 2, none⟩ v2).setCell ⟨b, 3, none⟩ v3) base ok v xs := by
  have k1 := kB.far (p := ⟨a, 3, none⟩) hab u
  exact Kd.R_set (Kd.R_set (Kd.R_set (Kd.R_set (Kd.R_set h kA ht 3 u) k1 ht 0 v0) (k1.set 0 v0) ht 1 v1) ((k1.set 0 v0).set 1 v1) ht 2 v2) (((k1.set 0 v0).set 1 v1).set 2 v2) ht 3 v3
theorem set_S {α : Type} {d : Kd α} {e base : Nat} {ok : Nat → Prop} {v : Value} {xs : List α} {w : World} {a b : Nat} {ca cb : Array Value} (h : Kd.S d e w base ok v xs) (kA : At w a 25 ca) (kB : At w b 25 cb) (hab : b ≠ a) (ht : ∀ q, q ∈ e :: d.E → q ≠ 25) (u v0 v1 v2 v3 : Value) :
    Kd.S d e (((((w.setCell ⟨a, 3, none⟩ u).setCell ⟨b, 0, none⟩ v0).setCell ⟨b, 1, none⟩ v1).setCell ⟨b, 2, none⟩ v2).setCell ⟨b, 3, none⟩ v3) base ok v xs := by
  have k1 := kB.far (p := ⟨a, 3, none⟩) hab u
  exact Kd.S_set (Kd.S_set (Kd.S_set (Kd.S_set (Kd.S_set h kA ht 3 u) k1 ht 0 v0) (k1.set 0 v0) ht 1 v1) ((k1.set 0 v0).set 1 v1) ht 2 v2) (((k1.set 0 v0).set 1 v1).set 2 v2) ht 3 v3
theorem copyEntry_any (K : Nat) (line : Int) (name : ByteArray) (k : List ByteArray) (Ak : Option Addr) (ck : Nat) (l : List S37) (Aa : Option Addr) (ca : Nat) (w : World) (hrk : Kd.C Kd.string w Ak k.length k) (hck : k.length ≤ ck) (hra : Kd.C k37 w Aa l.length l) (hca : l.length ≤ ca)
    (h1 : rosterlaw08_roomy.f k = some k) (h2 : copyQ.f K l = some (l.map up ++ [zq])) :
    Calls Try.prog 4 #[.agg #[.int .i64 line, .string name, .slice Ak k.length ck, .slice Aa l.length ca]] w fun en w' => ∃ A c A' c', en = .returned (.agg #[.int .i64 line, .string name, .slice A k.length c, .slice A' l.length c']) ∧
      k.length + 1 ≤ c ∧ Kd.string.C w' A (k.length + 1) (k ++ [SPB]) ∧ l.length + 1 ≤ c' ∧ Kd.C k37q w' A' (l.length + 1) (l.map up ++ [zq]) ∧ Below w.heap.size w w' := by
  have HRA := Lib.hid hra
  have H2 := Lib.hid h2
  have HRK := Lib.hid hrk
  clear hra h2 hrk
  go_enter Try.func4, Try.ntmps4
  go_wp2_with fail
  refine gen2 (w := w) (G := fun W => Calls _ _ _ W _) fun W0 hB0 hz0 kA kB => ?_
  refine (roomy_any Ak ck k k W0 (Kd.C_below HRK.out hB0) hck h1).mono ?_
  rintro en w1 ⟨A, c, rfl, hR, b1⟩
  have kA1 := kA.below b1 kA.lt
  have kB1 := kB.below b1 kB.lt
  have B1 : Below w.heap.size w w1 := hB0.trans (b1.mono (by omega))
  have z1 := b1.size
  have hab : w.heap.size + 1 ≠ w.heap.size := by omega
  have HR := Lib.hid hR
  have HB1 := Lib.hid B1
  have KA := Lib.hid kA1
  have KB := Lib.hid kB1
  have y3 := (kA1.cell 3).trans rfl
  have y2 := (kA1.cell 2).trans rfl
  have f2 := kA1.free 2
  clear hR B1 b1 hB0 kA kB kA1 kB1
  go_wp2_with fail
  obtain ⟨W1, hW1⟩ : ∃ x, x = w1.setCell ⟨w.heap.size, 2, none⟩ (.slice A k.length c) := ⟨_, rfl⟩
  rw [← hW1]
  have kA2 : At W1 w.heap.size 25 #[.int .i64 line, .string name, .slice A k.length c, .slice Aa l.length ca] := by rw [hW1]; exact KA.out.set 2 _
  have kB2 : At W1 (w.heap.size + 1) 25 #[.int .i64 0, .string ⟨#[]⟩, .slice none 0 0, .slice none 0 0] := by rw [hW1]; exact KB.out.far hab _
  have hR2 : Kd.R Kd.string 9 W1 W0.heap.size (fun _ => True) (.slice A (k.length + 1) c) (k ++ [SPB]) := by rw [hW1]; exact Kd.R_set HR.out KA.out (by decide) 2 _
  have B2 : Below w.heap.size w W1 := by rw [hW1]; exact below_set HB1.out (Nat.le_refl _)
  have z2 := B2.size
  clear hW1 y3 y2 f2 KA KB HR HB1
  refine (copyQ.calls K Aa ca l _ W1 (Kd.C_below HRA.out B2) hca H2.out).mono ?_
  rintro en w2 ⟨A', c', rfl, hS, b2⟩
  have kA3 := kA2.below b2 kA2.lt
  have kB3 := kB2.below b2 kB2.lt
  have hR3 := Kd.R_below hR2 b2
  have B3 : Below w.heap.size w w2 := B2.trans (b2.mono (by omega))
  have e5 : ((l.map up ++ [zq]).take l.length).length = l.length := by simp
  rw [e5]
  have e6 : (l.map up ++ [zq]).length = l.length + 1 := by simp
  rw [e6] at hS
  have HR := Lib.hid hR3
  have HS := Lib.hid hS
  have HB := Lib.hid B3
  have KA := Lib.hid kA3
  have KB := Lib.hid kB3
  have y0 := (kA3.cell 0).trans rfl
  have y1 := (kA3.cell 1).trans rfl
  have y2 := (kA3.cell 2).trans rfl
  have y3 := (kA3.cell 3).trans rfl
  have g3 := kA3.free 3
  have j0 := (kB3.cell 0).trans rfl
  have j1 := (kB3.cell 1).trans rfl
  have j2 := (kB3.cell 2).trans rfl
  have j3 := (kB3.cell 3).trans rfl
  have h0 := kB3.free 0
  have h1 := kB3.free 1
  have h2 := kB3.free 2
  have h3 := kB3.free 3
  clear kA2 kB2 hR2 B2 b2 kA3 kB3 hR3 B3 hS e5 e6
  go_wp2
  refine bodyPost_ret (v := .agg #[.int .i64 line, .string name, .slice A k.length c, .slice A' l.length c']) ?_ rfl ⟨A, c, A', c', rfl, ?_, ?_, ?_, ?_, ?_⟩
  · simp [results, Try.results4, go_sem, j0, j1, j2, j3]
  · exact (Kd.R_reads' HR.out).2.1
  · obtain ⟨e, _, h⟩ := Kd.R_reads' (set_R HR.out KA.out KB.out hab (by decide) (.slice A' l.length c') (.int .i64 line) (.string name) (.slice A k.length c) (.slice A' l.length c'))
    rw [← e] at h
    exact h
  · exact (Kd.S_reads' HS.out).2.1
  · obtain ⟨e, _, h⟩ := Kd.S_reads' (set_S HS.out KA.out KB.out hab (by decide) (.slice A' l.length c') (.int .i64 line) (.string name) (.slice A k.length c) (.slice A' l.length c'))
    rw [← e] at h
    exact h
  · exact below_set (below_set (below_set (below_set (below_set HB.out (Nat.le_refl _)) (by omega)) (by omega)) (by omega)) (by omega)
end Go.Proofs.Ytdckeakloifkdaa.W
