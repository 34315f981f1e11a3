/- Plain law of the statements' own writer of a message (wrap): its bytes, and what its header tells. -/
import Derived.Test.YtgihlldkdbjkkaaGPx1
import Derived.Test.YtgihlldkdbjkkaaFN
namespace Go.Proofs.Ytgihlldkdbjkkaa.W
open Go.RowKit Go.Proofs.Ytgihlldkdbjkkaa.GP Go.Proofs.YtgihlldkdbjkkaaW.PrintWords Go.Proofs.YtgihlldkdbjkkaaW.PrintMore
set_option linter.unusedVariables false
set_option linter.unusedSimpArgs false

/-- How many length bytes stand behind the second one, of a content of n bytes, n at most 4096. -/
def wrapK (form n : Int) : Int :=
  if form < 1 ∨ 4 < form then (if n < 128 then 0 else if n < 256 then 1 else 2) else if form = 1 ∧ 256 ≤ n then 2 else form
def wrapH (k n : Int) : List Int :=
  if k = 0 then [48, n] else if k = 1 then [48, 129, n] else if k = 2 then [48, 130, n / 256, n % 256] else if k = 3 then [48, 131, 0, n / 256, n % 256] else [48, 132, 0, 0, n / 256, n % 256]
theorem shr8 (n i : Int) (h0 : 0 ≤ i) (h1 : i ≤ 4) : shr .i64 n (wrap64 (8 * i)) = n / 2 ^ (8 * i.toNat) := by
  have e : wrap64 (8 * i) = 8 * i := by unfold wrap64; omega
  rw [e]
  unfold shr
  have e2 : min (8 * i).toNat IntKind.i64.bits = 8 * i.toNat := by simp [IntKind.bits]; omega
  rw [e2]
theorem wstr_size (l : List Int) : (strOfNums l).size = l.length := by
  show (l.map fun n => UInt8.ofNat n.toNat).toArray.size = _
  simp
theorem w1_in (k : Nat) (b : ByteArray) (n i : Int) (x : List Int) (h0 : 0 ≤ i) (h1 : i ≤ 4) (hx : x.length < 100) :
    rosterlaw03_wrap.l1 (k + 1) b n x i = rosterlaw03_wrap.l1 k b n (x ++ [n / 2 ^ (8 * i.toNat) % 256]) (i - 1) := by
  have e : wrap64 (8 * i) = 8 * i := by unfold wrap64; omega
  have e2 : wrap64 (i - 1) = i - 1 := by unfold wrap64; omega
  have e3 := shr8 n i h0 h1
  rw [e] at e3
  rw [rosterlaw03_wrap.l1, if_pos h0, e, if_pos (by omega), if_pos (by omega), e2, e3]
theorem w1_end (k : Nat) (b : ByteArray) (n : Int) (x : List Int) (hx : x.length < 100) (hb : b.size ≤ 4096) :
    rosterlaw03_wrap.l1 (k + 1) b n x (-1) = some (strOfNums x ++ b) := by
  rw [rosterlaw03_wrap.l1, if_neg (by omega), if_pos (by rw [wstr_size]; omega)]
theorem w5 (k : Nat) (b : ByteArray) (c : Int) (h0 : 0 ≤ c) (h1 : c ≤ 4) (hb : b.size ≤ 4096) (hc : c = 0 → (b.size : Int) < 128) (hc1 : c = 1 → (b.size : Int) < 256) :
    rosterlaw03_wrap.j5 (k + 7) b b.size c = some (strOfNums (wrapH c b.size) ++ b) := by
  have hz : (b.size : Int) ≤ 4096 := by omega
  have hp : 0 ≤ (b.size : Int) := by omega
  generalize (b.size : Int) = n at hz hp hc hc1 ⊢
  rcases (show c = 0 ∨ c = 1 ∨ c = 2 ∨ c = 3 ∨ c = 4 by omega) with rfl | rfl | rfl | rfl | rfl
  · have := hc rfl
    have e : n % 256 = n := by omega
    rw [rosterlaw03_wrap.j5, if_pos rfl, Option.bind_some, e, if_pos (by rw [wstr_size]; simp; omega)]
    rfl
  · have := hc1 rfl
    rw [rosterlaw03_wrap.j5, if_neg (by omega)]
    rw [show wrap64 (128 + 1) % 256 = 129 by unfold wrap64; omega, show wrap64 (1 - 1) = 0 by unfold wrap64; omega]
    show rosterlaw03_wrap.l1 (k + 5 + 1) b n [48, 129] 0 = _
    rw [w1_in _ _ _ _ _ (by omega) (by omega) (by simp)]
    show rosterlaw03_wrap.l1 (k + 4 + 1) b n _ (-1) = _
    rw [w1_end _ _ _ _ (by simp) hb]
    have e : n / 2 ^ (8 * (0 : Int).toNat) % 256 = n := by simp; omega
    rw [e]
    rfl
  · rw [rosterlaw03_wrap.j5, if_neg (by omega)]
    rw [show wrap64 (128 + 2) % 256 = 130 by unfold wrap64; omega, show wrap64 (2 - 1) = 1 by unfold wrap64; omega]
    show rosterlaw03_wrap.l1 (k + 5 + 1) b n [48, 130] 1 = _
    rw [w1_in _ _ _ _ _ (by omega) (by omega) (by simp)]
    show rosterlaw03_wrap.l1 (k + 4 + 1) b n _ 0 = _
    rw [w1_in _ _ _ _ _ (by omega) (by omega) (by simp)]
    show rosterlaw03_wrap.l1 (k + 3 + 1) b n _ (-1) = _
    rw [w1_end _ _ _ _ (by simp) hb]
    have e : n / 2 ^ (8 * (0 : Int).toNat) % 256 = n % 256 := by simp
    have e1 : n / 2 ^ (8 * (1 : Int).toNat) % 256 = n / 256 := by simp; omega
    rw [e, e1]
    rfl
  · rw [rosterlaw03_wrap.j5, if_neg (by omega)]
    rw [show wrap64 (128 + 3) % 256 = 131 by unfold wrap64; omega, show wrap64 (3 - 1) = 2 by unfold wrap64; omega]
    show rosterlaw03_wrap.l1 (k + 5 + 1) b n [48, 131] 2 = _
    rw [w1_in _ _ _ _ _ (by omega) (by omega) (by simp)]
    show rosterlaw03_wrap.l1 (k + 4 + 1) b n _ 1 = _
    rw [w1_in _ _ _ _ _ (by omega) (by omega) (by simp)]
    show rosterlaw03_wrap.l1 (k + 3 + 1) b n _ 0 = _
    rw [w1_in _ _ _ _ _ (by omega) (by omega) (by simp)]
    show rosterlaw03_wrap.l1 (k + 2 + 1) b n _ (-1) = _
    rw [w1_end _ _ _ _ (by simp) hb]
    have e : n / 2 ^ (8 * (0 : Int).toNat) % 256 = n % 256 := by simp
    have e1 : n / 2 ^ (8 * (1 : Int).toNat) % 256 = n / 256 := by simp; omega
    have e2 : n / 2 ^ (8 * (2 : Int).toNat) % 256 = 0 := by simp; omega
    rw [e, e1, e2]
    rfl
  · rw [rosterlaw03_wrap.j5, if_neg (by omega)]
    rw [show wrap64 (128 + 4) % 256 = 132 by unfold wrap64; omega, show wrap64 (4 - 1) = 3 by unfold wrap64; omega]
    show rosterlaw03_wrap.l1 (k + 5 + 1) b n [48, 132] 3 = _
    rw [w1_in _ _ _ _ _ (by omega) (by omega) (by simp)]
    show rosterlaw03_wrap.l1 (k + 4 + 1) b n _ 2 = _
    rw [w1_in _ _ _ _ _ (by omega) (by omega) (by simp)]
    show rosterlaw03_wrap.l1 (k + 3 + 1) b n _ 1 = _
    rw [w1_in _ _ _ _ _ (by omega) (by omega) (by simp)]
    show rosterlaw03_wrap.l1 (k + 2 + 1) b n _ 0 = _
    rw [w1_in _ _ _ _ _ (by omega) (by omega) (by simp)]
    show rosterlaw03_wrap.l1 (k + 1 + 1) b n _ (-1) = _
    rw [w1_end _ _ _ _ (by simp) hb]
    have e : n / 2 ^ (8 * (0 : Int).toNat) % 256 = n % 256 := by simp
    have e1 : n / 2 ^ (8 * (1 : Int).toNat) % 256 = n / 256 := by simp; omega
    have e2 : n / 2 ^ (8 * (2 : Int).toNat) % 256 = 0 := by simp; omega
    have e3 : n / 2 ^ (8 * (3 : Int).toNat) % 256 = 0 := by simp; omega
    rw [e, e1, e2, e3]
    rfl

theorem w0_up (k : Nat) (b : ByteArray) (n : Int) (h0 : 256 ≤ n) (h1 : n ≤ 4096) : rosterlaw03_wrap.l0 (k + 1) b n 1 = rosterlaw03_wrap.l0 k b n 2 := by
  have e3 := shr8 n 1 (by omega) (by omega)
  have e : (0 : Int) < n / 2 ^ (8 * (1 : Int).toNat) := by simp; omega
  rw [rosterlaw03_wrap.l0, if_pos (by omega), if_pos (by omega), e3, if_pos (by unfold wrap64; omega), if_pos e, show wrap64 (1 + 1) = 2 by unfold wrap64; omega]
theorem w0_stay (k : Nat) (b : ByteArray) (n c : Int) (h0 : 0 ≤ n) (h1 : n ≤ 4096) (c0 : 0 ≤ c) (c4 : c ≤ 4) (hc : c = 1 → n < 256) : rosterlaw03_wrap.l0 (k + 1) b n c = rosterlaw03_wrap.j5 k b n c := by
  rw [rosterlaw03_wrap.l0]
  by_cases a : c > 0
  · rw [if_pos a]
    by_cases d : c < 4
    · have e3 := shr8 n c (by omega) (by omega)
      have e : ¬ (0 : Int) < n / 2 ^ (8 * c.toNat) := by
        rcases (show c = 1 ∨ c = 2 ∨ c = 3 by omega) with rfl | rfl | rfl
        · have := hc rfl
          simp; omega
        · simp; omega
        · simp; omega
      rw [if_pos d, e3, if_pos (by unfold wrap64; omega), if_neg e]
    · rw [if_neg d]
  · rw [if_neg a]
/-- THE STATEMENTS' WRITER of a message with a content of at most 4096 bytes. -/
theorem wrap_f (form : Int) (b : ByteArray) (hb : b.size ≤ 4096) (k : Nat) : rosterlaw03_wrap.f (k + 20) form b = some (strOfNums (wrapH (wrapK form b.size) b.size) ++ b) := by
  have hp : 0 ≤ (b.size : Int) := by omega
  have hz : (b.size : Int) ≤ 4096 := by omega
  have fin : ∀ (q : Nat) (c : Int), 0 ≤ c → c ≤ 4 → (c = 0 → (b.size : Int) < 128) → rosterlaw03_wrap.j3 (q + 10) b b.size c = some (strOfNums (wrapH (if c = 1 ∧ 256 ≤ (b.size : Int) then 2 else c) b.size) ++ b) := by
    intro q c c0 c4 hc
    rw [show q + 10 = (q + 9) + 1 by omega, rosterlaw03_wrap.j3]
    by_cases h : c = 1 ∧ 256 ≤ (b.size : Int)
    · obtain ⟨rfl, h2⟩ := h
      rw [if_pos ⟨rfl, h2⟩, w0_up _ _ _ h2 hz, w0_stay _ _ _ _ hp hz (by omega) (by omega) (by omega)]
      exact w5 q b 2 (by omega) (by omega) hb (by omega) (by omega)
    · rw [if_neg h, w0_stay (q + 8) _ _ _ hp hz c0 c4 (fun e => by omega)]
      exact w5 (q + 1) b c c0 c4 hb hc (fun e => by omega)
  have mid : ∀ (q : Nat) (c : Int), 0 ≤ c → c ≤ 4 → rosterlaw03_wrap.j1 (q + 12) b b.size c = some (strOfNums (wrapH (wrapK c b.size) b.size) ++ b) := by
    intro q c c0 c4
    rw [show q + 12 = (q + 11) + 1 by omega, rosterlaw03_wrap.j1]
    by_cases h : c = 0
    · subst h
      rw [if_pos rfl, show q + 11 = (q + 10) + 1 by omega, rosterlaw03_wrap.j2]
      by_cases d : (b.size : Int) > 127
      · rw [if_pos (by simpa using d), fin q 1 (by omega) (by omega) (by omega)]
        have e : (if (1 : Int) = 1 ∧ 256 ≤ (b.size : Int) then (2 : Int) else 1) = wrapK 0 b.size := by
          unfold wrapK
          rw [if_pos (show (0 : Int) < 1 ∨ (4 : Int) < 0 by omega), if_neg (show ¬ (b.size : Int) < 128 by omega)]
          by_cases g : 256 ≤ (b.size : Int)
          · rw [if_pos ⟨rfl, g⟩, if_neg (show ¬ (b.size : Int) < 256 by omega)]
          · rw [if_neg (fun z => g z.2), if_pos (show (b.size : Int) < 256 by omega)]
        rw [e]
      · rw [if_neg (by simpa using d), fin q 0 (by omega) (by omega) (by omega)]
        have e : (if (0 : Int) = 1 ∧ 256 ≤ (b.size : Int) then (2 : Int) else 0) = wrapK 0 b.size := by
          unfold wrapK
          rw [if_pos (show (0 : Int) < 1 ∨ (4 : Int) < 0 by omega), if_pos (show (b.size : Int) < 128 by omega), if_neg (fun z => by have := z.1; omega)]
        rw [e]
    · rw [if_neg h, show q + 11 = (q + 10) + 1 by omega, rosterlaw03_wrap.j2, if_neg (by simp), fin q c c0 c4 (fun e => absurd e h)]
      have e : (if c = 1 ∧ 256 ≤ (b.size : Int) then (2 : Int) else c) = wrapK c b.size := by
        unfold wrapK
        rw [if_neg (show ¬ (c < 1 ∨ 4 < c) by omega)]
      rw [e]
  unfold rosterlaw03_wrap.f
  have ek : ∀ c : Int, (c < 0 ∨ 4 < c) → wrapK c b.size = wrapK 0 b.size := by
    intro c hc
    unfold wrapK
    rw [if_pos (show c < 1 ∨ 4 < c by omega), if_pos (show (0 : Int) < 1 ∨ (4 : Int) < 0 by omega)]
  by_cases h : form < 0
  · rw [if_pos h, show k + 20 = (k + 19) + 1 by omega, rosterlaw03_wrap.j0, if_pos rfl, ek form (Or.inl h)]
    exact mid (k + 7) 0 (by omega) (by omega)
  · rw [if_neg h, show k + 20 = (k + 19) + 1 by omega, rosterlaw03_wrap.j0]
    by_cases g : form > 4
    · rw [if_pos (by simpa using g), ek form (Or.inr g)]
      exact mid (k + 7) 0 (by omega) (by omega)
    · rw [if_neg (by simpa using g)]
      exact mid (k + 7) form (by omega) (by omega)
end Go.Proofs.Ytgihlldkdbjkkaa.W
