/- EntryBack: the marks behind the lists are still there (walks of spared, attrsSpared). -/
import Derived.Test.YtdckeakloifkdaaEb
namespace Go.Proofs.Ytdckeakloifkdaa.W
open Go.RowKit Go.Proofs.YtdckeakloifkdaaW.PrintWords Go.Proofs.YtdckeakloifkdaaW.PrintLast Go.Proofs.Ytdckeakloifkdaa.GM
set_option linter.unusedVariables false
set_option linter.unusedSimpArgs false
abbrev SPB : ByteArray := ⟨#[115, 112, 97, 114, 101, 32, 114, 111, 111, 109]⟩
theorem C_pre {α : Type} {d : Kd α} {w : World} {A : Option Addr} {n : Nat} {xs ys : List α} (h : Kd.C d w A n (xs ++ ys)) : Kd.C d w A xs.length xs := by
  obtain ⟨h1, h2, h3⟩ := h
  rw [List.length_append] at h1
  refine ⟨rfl, by omega, fun hn => ?_⟩
  obtain ⟨ad, e, hc⟩ := h3 (by omega)
  refine ⟨ad, e, fun j p hj => hc j p ?_⟩
  rw [List.getElem?_append_left (List.getElem?_eq_some_iff.1 hj).1]
  exact hj
theorem spared_any (x : List ByteArray) (A : Option Addr) (c : Nat) (w : World) (hl : (x ++ [SPB]).length ≤ c) (hC : Kd.string.C w A (x ++ [SPB]).length (x ++ [SPB])) (hx : x.length ≤ 1048576) :
    Calls Try.prog 14 #[.slice A x.length c] w fun en w' => en = .returned (.bool true) ∧ Below w.heap.size w w' := by
  rw [List.length_append, List.length_singleton] at hl hC
  obtain ⟨ad, cs, rfl, _, hK, hc⟩ := Kd.C_get hC SPB (x.length : Int) (by omega) (by omega)
  have e0 : (x ++ [SPB]).getD (x.length : Int).toNat SPB = SPB := by simp
  rw [e0] at hK
  have hK' : cs = [.string SPB] := hK
  subst hK'
  have x0 : w.cell? (ad.add x.length) = some (.string ⟨#[115, 112, 97, 114, 101, 32, 114, 111, 111, 109]⟩) := by
    have := hc 0 _ rfl
    rw [show (x.length : Int).toNat * Kd.string.sz + 0 = x.length by show (x.length : Int).toNat * 1 + 0 = x.length; omega] at this
    exact this
  have q0 : wrap64 ((x.length : Int) + 1) = (x.length : Int) + 1 := by unfold wrap64; omega
  have q1 : (0 : Int) ≤ (x.length : Int) + 1 := by omega
  have q2 : (x.length : Int) + 1 ≤ c := by omega
  have q3 : (x.length : Int) < (x.length : Int) + 1 := by omega
  have q4 : (0 : Int) ≤ (x.length : Int) := by omega
  clear hc hC e0
  go_enter Try.func14, Try.ntmps14
  go_wp2
  go_ret
  exact ⟨rfl, Below.refl _ _⟩
def up (x : S37) : Q37 := ⟨x.f0, x.f1, some x.f2⟩
abbrev zq : Q37 := ⟨SPB, ⟨#[]⟩, none⟩
theorem q_up {w : World} {x : S37} {cs : List Value} (h : k37q.K w (up x) cs) : ∃ A c, cs = [.string x.f0, .string x.f1, .slice A x.f2.length c] ∧ (x.f2 ++ [SPB]).length ≤ c ∧ Kd.string.C w A (x.f2 ++ [SPB]).length (x.f2 ++ [SPB]) := by
  obtain ⟨_, _, rfl, rfl, ⟨_, _, rfl, rfl, h2⟩⟩ := h
  obtain ⟨A, c, rfl, hl, hC⟩ := h2
  exact ⟨A, c, rfl, hl, hC⟩
theorem q_zq {w : World} {cs : List Value} (h : k37q.K w zq cs) : cs = [.string SPB, .string ⟨#[]⟩, .slice none 0 0] := by
  obtain ⟨_, _, rfl, rfl, ⟨_, _, rfl, rfl, h2⟩⟩ := h
  have h3 : _ = [Value.slice none 0 0] := h2
  rw [h3]
  rfl
theorem room_C {w : World} {A : Option Addr} {n : Nat} {l : List S37} (h : Kd.C k37q w A n (l.map up ++ [zq])) : Kd.C k37 w A l.length l := by
  have h' := C_pre h
  rw [List.length_map] at h'
  obtain ⟨h1, h2, h3⟩ := h'
  refine ⟨rfl, h2, fun hn => ?_⟩
  obtain ⟨ad, e, hc⟩ := h3 hn
  refine ⟨ad, e, fun j p hj => ?_⟩
  obtain ⟨cs, g1, g2, g3⟩ := hc j (up p) (by rw [List.getElem?_map, hj]; rfl)
  obtain ⟨A', c', rfl, hl, hC⟩ := q_up g2
  rw [List.length_append, List.length_singleton] at hl
  exact ⟨_, rfl, ⟨[.string p.f0], [.string p.f1, .slice A' p.f2.length c'], rfl, rfl, ⟨[.string p.f1], [.slice A' p.f2.length c'], rfl, rfl, ⟨A', c', rfl, (show p.f2.length ≤ c' by omega), C_pre hC⟩⟩⟩, g3⟩
theorem q_at {w : World} {ad : Addr} {l : List S37} (h : Kd.C k37q w (some ad) (l.length + 1) (l.map up ++ [zq])) (i : Nat) (hi : i < l.length) :
    ∃ A c, w.cell? ⟨(ad.add (i * 3)).block, (ad.add (i * 3)).off + 2, none⟩ = some (.slice A l[i].f2.length c) ∧ (l[i].f2 ++ [SPB]).length ≤ c ∧ Kd.string.C w A (l[i].f2 ++ [SPB]).length (l[i].f2 ++ [SPB]) := by
  obtain ⟨ad', cs, e, _, hK, hc⟩ := Kd.C_get h zq (i : Int) (by omega) (by omega)
  cases e
  rw [show (l.map up ++ [zq]).getD (i : Int).toNat zq = up l[i] by simp [List.getElem?_append_left, hi]] at hK
  obtain ⟨A', c', rfl, hl, hC⟩ := q_up hK
  refine ⟨A', c', ?_, hl, hC⟩
  have := hc 2 _ rfl
  rw [← add_field _ _ 2 (by omega)]
  exact this
theorem q_last {w : World} {ad : Addr} {l : List S37} (h : Kd.C k37q w (some ad) (l.length + 1) (l.map up ++ [zq])) : w.cell? (ad.add (l.length * 3)) = some (.string ⟨#[115, 112, 97, 114, 101, 32, 114, 111, 111, 109]⟩) := by
  obtain ⟨ad', cs, e, _, hK, hc⟩ := Kd.C_get h zq (l.length : Int) (by omega) (by omega)
  cases e
  rw [show (l.map up ++ [zq]).getD (l.length : Int).toNat zq = zq by simp] at hK
  obtain rfl := q_zq hK
  exact hc 0 _ rfl
theorem attrsSpared_any (K : Nat) (l : List S37) (A : Option Addr) (c : Nat) (A1 : Option Addr) (c1 : Nat) (w : World) (hl : l.length + 1 ≤ c) (hC : Kd.C k37q w A (l.length + 1) (l.map up ++ [zq])) (hr1 : Kd.C k37 w A1 l.length l) (hc1 : l.length ≤ c1)
    (hn : l.length ≤ 1048576) (hx : ∀ a ∈ l, a.f2.length ≤ 1048576) (hs : rosterlaw08_sameAttrs.f K l l = some true) :
    Calls Try.prog 12 #[.slice A l.length c, .slice A1 l.length c1] w fun en w' => en = .returned (.bool true) ∧ Below w.heap.size w w' := by
  have hu := Try.underlying37
  obtain ⟨ad, _, rfl, _⟩ := Kd.C_get hC zq 0 (by omega) (by omega)
  have q0 : wrap64 ((l.length : Int) + 1) = (l.length : Int) + 1 := by unfold wrap64; omega
  have q1 : (0 : Int) ≤ (l.length : Int) + 1 := by omega
  have q2 : (l.length : Int) + 1 ≤ c := by omega
  have q3 : (l.length : Int) < (l.length : Int) + 1 := by omega
  have q4 : (0 : Int) ≤ (l.length : Int) := by omega
  have HC := Lib.hid hC
  have HR1 := Lib.hid hr1
  have HX := Lib.hid hx
  go_enter Try.func12, Try.ntmps12
  go_wp2_with fail
  refine (rosterlaw08_sameAttrs.calls K (some ad) c l A1 c1 l true w (room_C hC) (by omega) hr1 hc1 hs).mono ?_
  rintro en w1 ⟨rfl, hb1⟩
  have HB1 := Lib.hid hb1
  clear hC hr1 hs hb1 hx
  go_wp2_with fail
  go_loopw [5] (fun v wr => ∃ i : Nat, v = .int .i64 i ∧ i ≤ l.length ∧ Below w.heap.size w wr) (fun v _ => l.length - (intOf v).toNat)
  case atStart => exact ⟨0, rfl, Nat.zero_le _, HB1.out⟩
  case round =>
    obtain ⟨i, rfl, hi, hb⟩ := hrel
    by_cases hil : i < l.length
    · have p : (0 : Int) ≤ i := by omega
      have q : (i : Int) < l.length := by omega
      obtain ⟨A', c', x2, hl', hC'⟩ := q_at (Kd.C_below HC.out hb) i hil
      have hx' := HX.out l[i] (List.getElem_mem _)
      have HB := Lib.hid hb
      have HL' := Lib.hid hl'
      have HC' := Lib.hid hC'
      clear hb hl' hC'
      go_wp2_with fail
      refine (spared_any l[i].f2 A' c' _ HL'.out HC'.out hx').mono ?_
      rintro en w2 ⟨rfl, hb2⟩
      have HB2 := Lib.hid (below_step HB.out hb2)
      clear hb2 HB x2
      go_wp2
      go_roundw
      case rel => exact ⟨i + 1, by go_num, by omega, HB2.out⟩
      case measure => simp [intOf]; omega
    · obtain rfl : i = l.length := by omega
      have x0 := q_last (Kd.C_below HC.out hb)
      have HB := Lib.hid hb
      clear hb
      go_wp2
      go_ret
      exact ⟨rfl, HB.out⟩
end Go.Proofs.Ytdckeakloifkdaa.W
