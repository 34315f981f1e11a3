/- Walks of ber.lay and ber.Join: an element's bytes in the shortest form, or the error. -/
import Derived.Test.YtolhmomnidlmaaaBLs
import Derived.Test.YtolhmomnidlmaaaBCa
import Derived.Test.YtolhmomnidlmaaaBW2
import Derived.Test.YtolhmomnidlmaaaGAx1
namespace Go.Proofs.Ytolhmomnidlmaaa.W
open Go.RowKit Go.Proofs.Ytolhmomnidlmaaa.GA Go.Proofs.YtolhmomnidlmaaaW.PrintWords Go.Proofs.YtolhmomnidlmaaaW.PrintMore
set_option linter.unusedVariables false
set_option linter.unusedSimpArgs false

theorem lay_any (cls : Int) (made : Bool) (tag : Int) (body : ByteArray) (w : World) (hb : body.size ≤ 4294967295) :
    Calls Try.prog 53 #[.int .i64 cls, .bool made, .int .i64 tag, .string body] w fun en w' => en = .returned (.string (layS cls made tag body)) ∧ Below w.heap.size w w' :=
  ber_lay.calls 7 cls made tag body _ w (lay_f cls made tag body hb)
theorem lay_big (cls : Int) (made : Bool) (tag : Int) (body : ByteArray) (w : World) (hb : (4294967295 : Int) < body.size) :
    Calls Try.prog 53 #[.int .i64 cls, .bool made, .int .i64 tag, .string body] w fun en w' => en = .panicked [{ v := .iface 86 (.agg #[.int .i64 24, .int .i64 0]), recovered := false }] ∧ w = w' := by
  go_enter Try.func53, Try.ntmps53
  go_wp2
  exact ⟨rfl, rfl, rfl⟩
/-- May class and tag be written? -/
def namedB (cls tag : Int) : Bool := decide (0 ≤ cls ∧ cls ≤ 3 ∧ 0 ≤ tag ∧ tag < 31)
theorem named_any (cls tag : Int) (w : World) : Calls Try.prog 50 #[.int .i64 cls, .int .i64 tag] w fun en w' => en = .returned (.bool (namedB cls tag)) ∧ Drawn0 w w' := by
  refine ber_named.calls cls tag _ w ?_
  unfold ber_named.f namedB
  by_cases h0 : cls ≥ 0
  · rw [if_pos h0]
    by_cases h1 : cls ≤ 3
    · rw [if_pos h1]
      by_cases h2 : tag ≥ 0
      · rw [if_pos h2]
        congr 1
        rw [decide_eq_decide]
        omega
      · rw [if_neg h2]
        congr 1
        rw [eq_comm, decide_eq_false_iff_not]
        omega
    · rw [if_neg h1]
      congr 1
      rw [eq_comm, decide_eq_false_iff_not]
      omega
  · rw [if_neg h0]
    congr 1
    rw [eq_comm, decide_eq_false_iff_not]
    omega

/-- What Join answers. -/
def joinR (cls : Int) (made : Bool) (tag : Int) (body : ByteArray) : ByteArray × Int :=
  if namedB cls tag = true then (if body.size ≤ 4294967295 then (layS cls made tag body, 0) else (⟨#[]⟩, 24)) else (⟨#[]⟩, 28)

theorem JoinC_ok (B ge go : Nat) (cls : Int) (made : Bool) (tag : Int) (body : ByteArray) (w : World) (hb : body.size ≤ 4294967295)
    (aE : At w ge 35 #[.int .i64 cls, .bool made, .int .i64 tag, .string body]) (aO : At w go 9 #[.string ⟨#[]⟩]) (aF : At w B 86 #[.int .i64 0, .int .i64 0]) :
    Calls Try.prog 52 #[.pointer (some ⟨ge, 0, none⟩), .pointer (some ⟨go, 0, none⟩)] w (RunEnd none B fun w1 => At w1 go 9 #[.string (layS cls made tag body)] ∧ w.grownBy w1 (some go)) := by
  have c : ∀ i, w.cell? ⟨ge, i, none⟩ = _ := aE.cell
  go_enter Try.func52, Try.ntmps52
  go_wp2_with fail
  refine (lay_any cls made tag body _ hb).mono ?_
  rintro en w1 ⟨rfl, hbw⟩
  have a1 := aO.below hbw aO.lt
  have f1 := aF.below hbw aF.lt
  have c0 := (a1.cell 0).trans rfl
  have e0 := a1.free 0
  have hne : B ≠ go := aF.ne aO (by decide)
  have B1 := grown_below hbw (some go)
  have A1 := Lib.hid a1
  clear a1 c hbw
  go_wp2_with fail
  go_end0
  exact ⟨rfl, f1.far hne _, A1.out.set 0 _, grown_set B1 0 _⟩
theorem JoinC_no (B ge go : Nat) (cls : Int) (made : Bool) (tag : Int) (body : ByteArray) (w : World) (hb : (4294967295 : Int) < body.size)
    (aE : At w ge 35 #[.int .i64 cls, .bool made, .int .i64 tag, .string body]) (aO : At w go 9 #[.string ⟨#[]⟩]) (aF : At w B 86 #[.int .i64 0, .int .i64 0]) :
    Calls Try.prog 52 #[.pointer (some ⟨ge, 0, none⟩), .pointer (some ⟨go, 0, none⟩)] w (RunEnd (some (24, 0)) B fun w1 => At w1 go 9 #[.string ⟨#[]⟩] ∧ w.grownBy w1 (some go)) := by
  have c : ∀ i, w.cell? ⟨ge, i, none⟩ = _ := aE.cell
  go_enter Try.func52, Try.ntmps52
  go_wp2_with fail
  refine (lay_big cls made tag body _ hb).mono ?_
  rintro en w1 ⟨rfl, rfl⟩
  exact ⟨rfl, rfl, aF, aO, grown_refl _ _⟩

/-- WHAT Join ANSWERS. -/
theorem Join_any (cls : Int) (made : Bool) (tag : Int) (body : ByteArray) (w : World) :
    Calls Try.prog 28 #[.agg #[.int .i64 cls, .bool made, .int .i64 tag, .string body]] w fun en w' =>
      en = .returned (.tuple #[.string (joinR cls made tag body).1, .int .i64 (joinR cls made tag body).2]) ∧ Below w.heap.size w w' := by
  have hmf : ∀ (fn : Fn) (first cap : Array Value) (w : World), (Instr.makeFunc fn first cap).run Try.prog w = .ok (.func fn first cap) w := fun _ _ _ _ => rfl
  cases hn : namedB cls tag with
  | false =>
    have HJ : Hid (joinR cls made tag body = (⟨#[]⟩, 28)) := by unfold Hid joinR; rw [hn]; rfl
    have HN := Lib.hid hn
    clear hn
    go_enter Try.func28, Try.ntmps28
    go_wp2_with fail
    refine (named_any cls tag _).mono ?_
    rintro en w1 ⟨rfl, nd, rfl⟩
    rw [HN.out]
    go_wp2
    go_ret2
    rw [HJ.out]
    exact ⟨rfl, below_draws ((Below.refl _ _).alloc (Nat.le_refl _) _) _⟩
  | true =>
    have HC : ∃ r : Option (Int × Int), errOf r = (joinR cls made tag body).2 ∧ ∀ (W : World) (B ge go : Nat), At W ge 35 #[.int .i64 cls, .bool made, .int .i64 tag, .string body] → At W go 9 #[.string ⟨#[]⟩] → At W B 86 #[.int .i64 0, .int .i64 0] →
        Calls Try.prog 52 #[.pointer (some ⟨ge, 0, none⟩), .pointer (some ⟨go, 0, none⟩)] W (RunEnd r B fun w1 => At w1 go 9 #[.string (joinR cls made tag body).1] ∧ W.grownBy w1 (some go)) := by
      unfold joinR
      rw [if_pos hn]
      by_cases hb : body.size ≤ 4294967295
      · rw [if_pos hb]
        exact ⟨none, rfl, fun W B ge go a1 a2 a3 => JoinC_ok B ge go cls made tag body W hb a1 a2 a3⟩
      · rw [if_neg hb]
        exact ⟨some (24, 0), rfl, fun W B ge go a1 a2 a3 => JoinC_no B ge go cls made tag body W (by omega) a1 a2 a3⟩
    obtain ⟨r, hre, hc⟩ := HC
    obtain ⟨o, ho⟩ : ∃ o, o = (joinR cls made tag body).1 := ⟨_, rfl⟩
    obtain ⟨c, hcc⟩ : ∃ c, c = (joinR cls made tag body).2 := ⟨_, rfl⟩
    rw [← ho, ← hcc]
    rw [← hcc] at hre
    rw [← ho] at hc
    have HR := Lib.hid hre
    have HC := Lib.hid hc
    have HN := Lib.hid hn
    clear hre hc ho hcc hn
    go_enter Try.func28, Try.ntmps28
    go_wp2_with fail
    refine (named_any cls tag _).mono ?_
    rintro en w1 ⟨rfl, nd, rfl⟩
    rw [HN.out]
    go_wp2_with fail
    refine gen2d (G := fun W => Calls _ _ _ W _) fun W hB hz k1 k2 => ?_
    have aF := At.new W 86 #[.int .i64 0, .int .i64 0]
    refine (caught_JoinC _ _ r _ (HC.out _ _ _ _ (k1.alloc _) (k2.alloc _) aF)).mono ?_
    rintro en w2 ⟨rfl, w1, ⟨m1, m2⟩, hg⟩
    have n2 := m1.kept hg (by omega)
    have B2 : Below w.heap.size w w2 := below_kept (below_kept (hB.alloc (by omega) _) m2 (by simp; omega) (by omega)) hg (by have := m2.size; simp at this; omega) (by omega)
    have hz2 : w.heap.size ≤ w2.heap.size := B2.size
    clear m1 m2 hg k1 k2 aF hB HC hz
    have z2 := n2.lt
    have c0 := (n2.cell 0).trans rfl
    have N2 := Lib.hid n2
    clear n2
    go_wp2_with fail
    go_region
    go_wp2
    go_ret2
    rw [HR.out]
    exact ⟨rfl, (B2.alloc hz2 _).drew⟩
end Go.Proofs.Ytolhmomnidlmaaa.W
