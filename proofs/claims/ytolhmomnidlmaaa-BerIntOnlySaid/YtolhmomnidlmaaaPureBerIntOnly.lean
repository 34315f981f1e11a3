/- BerIntOnly: a content is a number just if it has one to eight bytes and its first nine bits aren't all the same; then it is that number's own content and means it byte for byte. -/
import Derived.Test.YtolhmomnidlmaaaGIx2
import Derived.Test.YtolhmomnidlmaaaIp
namespace Go.Proofs.Ytolhmomnidlmaaa.Pure
open Go.RowKit Go.Proofs.Ytolhmomnidlmaaa.GI Go.Proofs.YtolhmomnidlmaaaW.PrintWords Go.Proofs.YtolhmomnidlmaaaW.PrintLast
set_option linter.unusedVariables false
set_option linter.unusedSimpArgs false

theorem bt_is : bt = W.byt := rfl
theorem l0_loop (s : ByteArray) (hs : s.size ≤ 8) (x : Int) : ∀ (n : Nat) (v : Int), n ≤ s.size → (∀ j, j < n → v / 256 ^ (n - 1 - j) % 256 = W.byt s j) → v / 256 ^ n = x →
    ∀ k, rosterlaw02_BerIntOnly.l0 (k + n + 1) s v ((n : Int) - 1) = rosterlaw02_BerIntOnly.l0 (k + 1) s x (-1) := by
  intro n
  induction n with
  | zero => intro v _ _ hx k; simp at hx; subst hx; rfl
  | succ n ih =>
    intro v hn hd hx k
    have h0 := hd n (by omega)
    rw [show n + 1 - 1 - n = 0 by omega] at h0
    have h0' : v % 256 = W.byt s n := by simpa using h0
    have e : ((n + 1 : Nat) : Int) - 1 = n := by omega
    have ew : wrap64 ((n : Int) - 1) = n - 1 := by unfold wrap64; omega
    rw [show k + (n + 1) + 1 = (k + n + 1) + 1 by omega, rosterlaw02_BerIntOnly.l0, e, if_pos (by omega), if_pos (by omega), if_pos (by omega), bt_is, if_pos h0', ew]
    exact ih (v / 256) (by omega) (fun j hj => by
      have := hd j (by omega)
      rw [show n + 1 - 1 - j = (n - 1 - j) + 1 by omega, W.div_succ'] at this
      exact this) (by rw [← W.div_succ']; exact hx) k

theorem good_case (v : Int) (h0 : -9223372036854775808 ≤ v) (h1 : v ≤ 9223372036854775807) (k : Nat) : rosterlaw02_BerIntOnly.j2 (k + (W.putS v).size + 4) (W.putS v) true = some true := by
  obtain ⟨r1, r2, r3, r4⟩ := W.int_put v h0 h1
  obtain ⟨p1, p8, pf, pn⟩ := W.putC_spec v h0 h1
  have hsz := W.putS_size v
  have hx : v / 256 ^ (W.putC v) = 0 ∨ v / 256 ^ (W.putC v) = -1 := by
    obtain ⟨c, hc⟩ : ∃ c, W.putC v = c + 1 := ⟨W.putC v - 1, by omega⟩
    rw [hc, W.fits_div] at pf
    rw [hc, W.div_succ]
    omega
  have hx2 : v / 256 ^ (W.putC v) = -1 ↔ v < 0 := by
    rw [show (v / 256 ^ (W.putC v) = -1 ↔ v / 256 ^ (W.putC v) < 0) from ⟨fun h => by omega, fun h => by omega⟩, Int.ediv_lt_iff_lt_mul (W.p256_pos _)]
    simp
  have hl := l0_loop (W.putS v) r3 (v / 256 ^ (W.putC v)) (W.putS v).size v (Nat.le_refl _) (fun j hj => by rw [hsz]; exact (W.putS_byt v j (by omega)).symm) (by rw [hsz]) (k + 2)
  have ew : wrap64 (((W.putS v).size : Int) - 1) = ((W.putS v).size : Int) - 1 := by unfold wrap64; omega
  rw [show k + (W.putS v).size + 4 = (k + 2 + (W.putS v).size + 1) + 1 by omega, rosterlaw02_BerIntOnly.j2]
  unfold ber_Int.f
  rw [r1, Option.bind_some, if_pos rfl, if_pos rfl, ew]
  show rosterlaw02_BerIntOnly.l0 (k + 2 + (W.putS v).size + 1) (W.putS v) v _ = _
  rw [hl, rosterlaw02_BerIntOnly.l0, if_neg (by omega)]
  have hj : ∀ b, rosterlaw02_BerIntOnly.j4 (k + 2) (W.putS v) (v / 256 ^ (W.putC v)) b = if b = true then some false else some true := by
    intro b
    cases b with
    | true => rfl
    | false =>
    rw [show k + 2 = (k + 1) + 1 by omega, rosterlaw02_BerIntOnly.j4, if_neg (by simp)]
    unfold ber_Int.f ber_PutInt.f
    rw [r1, Option.bind_some, if_pos ⟨h0, h1⟩, Option.bind_some, if_pos rfl, if_pos (by omega), bt_is]
    have e : ((v / 256 ^ (W.putC v) == -1) == decide (W.byt (W.putS v) 0 ≥ 128)) = true := by
      by_cases hv : v < 0
      · have a := hx2.2 hv
        have b := r4.2 hv
        rw [a]
        simpa using b
      · have a : ¬ v / 256 ^ (W.putC v) = -1 := fun z => hv (hx2.1 z)
        have b : ¬ 128 ≤ W.byt (W.putS v) 0 := fun z => hv (r4.1 z)
        rw [beq_eq_false_iff_ne.2 a]
        simp
        omega
    rw [e]
    rfl
  rcases hx with h | h
  · rw [if_pos h, hj, if_neg (by simp)]
  · rw [if_neg (by omega), hj, h]
    rfl
theorem bad_case (s : ByteArray) (h : W.intS s = (0, 29)) (k : Nat) : rosterlaw02_BerIntOnly.j2 (k + 1) s false = some true := by
  rw [rosterlaw02_BerIntOnly.j2]
  unfold ber_Int.f
  rw [h]
  rfl
theorem BerIntOnly : rosterlaw02_BerIntOnly.Pure := by
  intro s hs
  refine ⟨s.size + 6, ?_⟩
  have good : (W.intS s).2 = 0 → rosterlaw02_BerIntOnly.j2 (s.size + 4) s true = some true := by
    intro h
    obtain ⟨q1, q2, q3, q4, q5⟩ := W.put_int s h
    have := good_case (W.intS s).1 q2 q3 0
    rw [q1, Nat.zero_add] at this
    exact this
  unfold rosterlaw02_BerIntOnly.f
  by_cases c0 : s.size = 0
  · have hI : W.intS s = (0, 29) := by unfold W.intS; rw [if_pos (Or.inl c0)]
    rw [if_neg (by omega), rosterlaw02_BerIntOnly.j0, if_neg (by simp), rosterlaw02_BerIntOnly.j1, if_neg (by simp)]
    exact bad_case s hI _
  rw [if_pos (by omega)]
  by_cases c8 : s.size ≤ 8
  rotate_left
  · have hI : W.intS s = (0, 29) := by unfold W.intS; rw [if_pos (Or.inr (by omega))]
    have e : decide ((s.size : Int) ≤ 8) = false := by simp; omega
    rw [e, rosterlaw02_BerIntOnly.j0, if_neg (by simp), rosterlaw02_BerIntOnly.j1, if_neg (by simp)]
    exact bad_case s hI _
  have e : decide ((s.size : Int) ≤ 8) = true := by simp; omega
  rw [e, rosterlaw02_BerIntOnly.j0, if_pos rfl]
  by_cases c1 : s.size = 1
  · have hI : (W.intS s).2 = 0 := by unfold W.intS; rw [if_neg (by omega), if_neg (by omega)]
    have e : decide ((s.size : Int) > 1) = false := by simp; omega
    rw [e, rosterlaw02_BerIntOnly.j1, if_neg (by simp)]
    exact good hI
  have e : decide ((s.size : Int) > 1) = true := by simp; omega
  rw [e, rosterlaw02_BerIntOnly.j1, if_pos rfl, if_pos (by omega), if_pos (by omega), bt_is]
  by_cases b0 : W.byt s 0 = 0
  · rw [if_pos b0]
    by_cases b1 : W.byt s 1 < 128
    · have hI : W.intS s = (0, 29) := by unfold W.intS; rw [if_neg (by omega), if_pos ⟨by omega, Or.inl ⟨b0, b1⟩⟩]
      rw [if_pos b1]
      exact bad_case s hI _
    · have hI : (W.intS s).2 = 0 := by unfold W.intS; rw [if_neg (by omega), if_neg (by omega)]
      rw [if_neg b1, if_neg (by omega)]
      exact good hI
  · rw [if_neg b0]
    by_cases b2 : W.byt s 0 = 255
    · rw [if_pos b2]
      by_cases b1 : 128 ≤ W.byt s 1
      · have hI : W.intS s = (0, 29) := by unfold W.intS; rw [if_neg (by omega), if_pos ⟨by omega, Or.inr ⟨b2, b1⟩⟩]
        have e : decide (W.byt s 1 ≥ 128) = true := by simpa using b1
        rw [e]
        exact bad_case s hI _
      · have hI : (W.intS s).2 = 0 := by unfold W.intS; rw [if_neg (by omega), if_neg (by omega)]
        have e : decide (W.byt s 1 ≥ 128) = false := by simp; omega
        rw [e]
        exact good hI
    · have hI : (W.intS s).2 = 0 := by unfold W.intS; rw [if_neg (by omega), if_neg (by omega)]
      rw [if_neg b2]
      exact good hI
end Go.Proofs.Ytolhmomnidlmaaa.Pure
