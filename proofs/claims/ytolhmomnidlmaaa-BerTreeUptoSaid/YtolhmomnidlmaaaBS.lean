/- Plain law of the elements' headers (no program in sight): what the reader of a header answers, as a function of the bytes. -/
import Derived.Test.YtolhmomnidlmaaaBW
namespace Go.Proofs.Ytolhmomnidlmaaa.W

/-- Bytes that are not there: of the outermost element 20, of another 26. -/
def miss (d : Int) : Int := if d = 1 then 20 else 26
/-- The number that n bytes from place i on say, the first the highest; v: what stood ahead. -/
def numAt (s : ByteArray) (i : Int) : Nat → Int → Int
  | 0, v => v
  | n + 1, v => numAt s (i + 1) n (v * 256 + byt s i)
structure Hd where
  cls : Int
  made : Bool
  tag : Int
  len : Int
  size : Int
/-- The header at p of a stretch that ends at e, at depth d; or the error and its place. -/
def hdr (s : ByteArray) (p e d : Int) : Except (Int × Int) Hd :=
  if 64 < d then .error (25, p)
  else if e ≤ p then .error (miss d, e)
  else if byt s p % 32 = 31 then .error (21, p)
  else if e ≤ p + 1 then .error (miss d, e)
  else if byt s (p + 1) < 128 then .ok ⟨byt s p / 64, byt s p / 32 % 2 == 1, byt s p % 32, byt s (p + 1), 2⟩
  else if byt s (p + 1) = 128 then .error (22, p + 1)
  else if 132 < byt s (p + 1) then .error (23, p + 1)
  else if e < p + (byt s (p + 1) - 126) then .error (miss d, e)
  else .ok ⟨byt s p / 64, byt s p / 32 % 2 == 1, byt s p % 32, numAt s (p + 2) (byt s (p + 1) - 128).toNat 0, byt s (p + 1) - 126⟩

theorem numAt_snoc (s : ByteArray) (n : Nat) : ∀ (i v : Int), numAt s i (n + 1) v = numAt s i n v * 256 + byt s (i + n) := by
  induction n with
  | zero => intro i v; simp [numAt]
  | succ n ih =>
    intro i v
    have h := ih (i + 1) (v * 256 + byt s i)
    have e : i + 1 + (n : Int) = i + ((n + 1 : Nat) : Int) := by omega
    rw [e] at h
    exact h
theorem numAt_range (s : ByteArray) (i : Int) (n : Nat) : 0 ≤ numAt s i n 0 ∧ numAt s i n 0 < 256 ^ n := by
  induction n with
  | zero => simp [numAt]
  | succ n ih =>
    rw [numAt_snoc]
    have hb := byt_range s (i + n)
    have e : (256 : Int) ^ (n + 1) = 256 ^ n * 256 := by rw [Int.pow_succ]
    rw [e]
    omega
theorem numAt_lt (s : ByteArray) (i : Int) (n : Nat) (hn : n ≤ 4) : 0 ≤ numAt s i n 0 ∧ numAt s i n 0 < 4294967296 := by
  have h := numAt_range s i n
  refine ⟨h.1, ?_⟩
  have : n = 0 ∨ n = 1 ∨ n = 2 ∨ n = 3 ∨ n = 4 := by omega
  rcases this with rfl | rfl | rfl | rfl | rfl <;> (have := h.2; simp at this; omega)

/-- The header at p, its content within the stretch. -/
def bnd (s : ByteArray) (p e d : Int) : Except (Int × Int) Hd :=
  match hdr s p e d with
  | .error x => .error x
  | .ok h => if e - p - h.size < h.len then .error (miss d, e) else .ok h
theorem hdr_ok {s : ByteArray} {p e d : Int} {h : Hd} (he : hdr s p e d = .ok h) :
    d ≤ 64 ∧ p + h.size ≤ e ∧ 2 ≤ h.size ∧ h.size ≤ 6 ∧ 0 ≤ h.len ∧ h.len < 4294967296 ∧ h.cls = byt s p / 64 ∧ h.made = (byt s p / 32 % 2 == 1) ∧ h.tag = byt s p % 32 ∧ byt s p % 32 ≠ 31 := by
  unfold hdr at he
  have hb := byt_range s (p + 1)
  by_cases c1 : 64 < d
  · rw [if_pos c1] at he; cases he
  rw [if_neg c1] at he
  by_cases c2 : e ≤ p
  · rw [if_pos c2] at he; cases he
  rw [if_neg c2] at he
  by_cases c3 : byt s p % 32 = 31
  · rw [if_pos c3] at he; cases he
  rw [if_neg c3] at he
  by_cases c4 : e ≤ p + 1
  · rw [if_pos c4] at he; cases he
  rw [if_neg c4] at he
  by_cases c5 : byt s (p + 1) < 128
  · rw [if_pos c5] at he
    injection he with he
    subst he
    exact ⟨by omega, by show p + 2 ≤ e; omega, by show (2 : Int) ≤ 2; omega, by show (2 : Int) ≤ 6; omega, hb.1, by show byt s (p + 1) < 4294967296; omega, rfl, rfl, rfl, c3⟩
  rw [if_neg c5] at he
  by_cases c6 : byt s (p + 1) = 128
  · rw [if_pos c6] at he; cases he
  rw [if_neg c6] at he
  by_cases c7 : 132 < byt s (p + 1)
  · rw [if_pos c7] at he; cases he
  rw [if_neg c7] at he
  by_cases c8 : e < p + (byt s (p + 1) - 126)
  · rw [if_pos c8] at he; cases he
  rw [if_neg c8] at he
  injection he with he
  subst he
  have hn := numAt_lt s (p + 2) (byt s (p + 1) - 128).toNat (by omega)
  exact ⟨by omega, by show p + (byt s (p + 1) - 126) ≤ e; omega, by show 2 ≤ byt s (p + 1) - 126; omega, by show byt s (p + 1) - 126 ≤ 6; omega, hn.1, hn.2, rfl, rfl, rfl, c3⟩
theorem bnd_ok {s : ByteArray} {p e d : Int} {h : Hd} (he : bnd s p e d = .ok h) : hdr s p e d = .ok h ∧ p + h.size + h.len ≤ e := by
  unfold bnd at he
  cases hh : hdr s p e d with
  | error x => rw [hh] at he; cases he
  | ok k =>
    rw [hh] at he
    simp only at he
    by_cases c : e - p - k.size < k.len
    · rw [if_pos c] at he; cases he
    · rw [if_neg c] at he
      injection he with he
      subst he
      exact ⟨rfl, by omega⟩
end Go.Proofs.Ytolhmomnidlmaaa.W
