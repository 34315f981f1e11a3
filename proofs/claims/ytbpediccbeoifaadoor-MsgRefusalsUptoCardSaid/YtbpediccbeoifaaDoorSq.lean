/- The marks behind a copy's lists are still there: walks of spares, sparesAttrs, sparesControls; what stands in room is read as plain lists. -/
import Derived.Test.YtbpediccbeoifaaDoorRq
namespace Go.Proofs.YtbpediccbeoifaaDoor.W
open Go.RowKit Go.Proofs.YtbpediccbeoifaaDoorW.PrintWords Go.Proofs.YtbpediccbeoifaaDoorW.PrintLast Go.Proofs.YtbpediccbeoifaaDoor.GN
set_option linter.unusedVariables false
set_option linter.unusedSimpArgs false
theorem C_pre {α : Type} {d : Kd α} {w : World} {A : Option Addr} {n : Nat} {xs ys : List α} (h : Kd.C d w A n (xs ++ ys)) : Kd.C d w A xs.length xs := by
  obtain ⟨h1, h2, h3⟩ := h
  rw [List.length_append] at h1
  refine ⟨rfl, by omega, fun hn => ?_⟩
  obtain ⟨ad, e, hc⟩ := h3 (by omega)
  refine ⟨ad, e, fun j p hj => hc j p ?_⟩
  rw [List.getElem?_append_left (List.getElem?_eq_some_iff.1 hj).1]
  exact hj
/-- A list of another kind whose elements are read as the first's. -/
theorem C_up {α β : Type} {d : Kd α} {e : Kd β} {up : α → β} {w : World} {A : Option Addr} {l : List α} (hs : d.sz = e.sz) (hK : ∀ x cs, e.K w (up x) cs → d.K w x cs) (h : Kd.C e w A l.length (l.map up)) : Kd.C d w A l.length l := by
  obtain ⟨h1, h2, h3⟩ := h
  refine ⟨rfl, h2, fun hn => ?_⟩
  obtain ⟨ad, e1, hc⟩ := h3 hn
  refine ⟨ad, e1, fun j p hj => ?_⟩
  obtain ⟨cs, g1, g2, g3⟩ := hc j (up p) (by rw [List.getElem?_map, hj]; rfl)
  refine ⟨cs, g1.trans hs.symm, hK _ _ g2, ?_⟩
  rw [hs]
  exact g3
theorem q_upT {w : World} {x : S75} {cs : List Value} (h : KTq.K w (upT x) cs) : ∃ A c, cs = [.string x.f0, .string x.f1, .slice A x.f2.length c] ∧ (x.f2 ++ [SPM]).length ≤ c ∧ Kd.string.C w A (x.f2 ++ [SPM]).length (x.f2 ++ [SPM]) := by
  obtain ⟨_, _, rfl, rfl, ⟨_, _, rfl, rfl, h2⟩⟩ := h
  obtain ⟨A, c, rfl, hl, hC⟩ := h2
  exact ⟨A, c, rfl, hl, hC⟩
theorem q_upC {w : World} {x : S73} {cs : List Value} (h : KCq.K w (upC x) cs) : ∃ A c, cs = [.int .i64 x.f0, .string x.f1, .slice A x.f2.length c] ∧ (x.f2 ++ [SPM]).length ≤ c ∧ Kd.string.C w A (x.f2 ++ [SPM]).length (x.f2 ++ [SPM]) := by
  obtain ⟨_, _, rfl, rfl, ⟨_, _, rfl, rfl, h2⟩⟩ := h
  obtain ⟨A, c, rfl, hl, hC⟩ := h2
  exact ⟨A, c, rfl, hl, hC⟩
theorem q_upF {w : World} {x : S71} {cs : List Value} (h : KNq.K w (upF x) cs) : ∃ A c, cs = [.int .i64 x.f0, .int .i64 x.f1, .string x.f2, .string x.f3, .string x.f4.f0, .slice A x.f4.f1.length c, .string x.f4.f2, .string x.f5, .bool x.f6] ∧ (x.f4.f1 ++ [SPM]).length ≤ c ∧ Kd.string.C w A (x.f4.f1 ++ [SPM]).length (x.f4.f1 ++ [SPM]) := by
  obtain ⟨_, _, rfl, rfl, ⟨_, _, rfl, rfl, ⟨_, _, rfl, rfl, ⟨_, _, rfl, rfl, ⟨_, _, rfl, h4, ⟨_, _, rfl, rfl, rfl⟩⟩⟩⟩⟩⟩ := h
  obtain ⟨_, _, rfl, rfl, ⟨_, _, rfl, h2, rfl⟩⟩ := h4
  obtain ⟨A, c, rfl, hl, hC⟩ := h2
  exact ⟨A, c, rfl, hl, hC⟩
theorem room_T {w : World} {A : Option Addr} {l : List S75} (h : Kd.C KTq w A (l.length + 1) (l.map upT ++ [zT])) : Kd.C k75 w A l.length l := by
  have h' := C_pre h
  rw [List.length_map] at h'
  refine C_up (up := upT) rfl (fun x cs hx => ?_) h'
  obtain ⟨A', c', rfl, hl, hC⟩ := q_upT hx
  rw [List.length_append] at hl
  exact k75_mk w x (by omega) (C_pre hC)
theorem room_C {w : World} {A : Option Addr} {l : List S73} (h : Kd.C KCq w A (l.length + 1) (l.map upC ++ [zC])) : Kd.C k73 w A l.length l := by
  have h' := C_pre h
  rw [List.length_map] at h'
  refine C_up (up := upC) rfl (fun x cs hx => ?_) h'
  obtain ⟨A', c', rfl, hl, hC⟩ := q_upC hx
  rw [List.length_append] at hl
  exact k73_mk w x (by omega) (C_pre hC)
theorem room_F {w : World} {A : Option Addr} {l : List S71} (h : Kd.C KNq w A (l.length + 1) (l.map upF ++ [zF])) : Kd.C k71 w A l.length l := by
  have h' := C_pre h
  rw [List.length_map] at h'
  refine C_up (up := upF) rfl (fun x cs hx => ?_) h'
  obtain ⟨A', c', rfl, hl, hC⟩ := q_upF hx
  rw [List.length_append] at hl
  exact k71_mk w x (by omega) (C_pre hC)
theorem up_at {α β : Type} {e : Kd β} {up : α → β} {z : β} {w : World} {ad : Addr} {l : List α} (h : Kd.C e w (some ad) (l.length + 1) (l.map up ++ [z])) (i : Nat) (hi : i < l.length) :
    ∃ cs, e.K w (up l[i]) cs ∧ ∀ j u, cs[j]? = some u → w.cell? (ad.add (i * e.sz + j)) = some u := by
  obtain ⟨ad', cs, e1, _, hK, hc⟩ := Kd.C_get h z (i : Int) (by omega) (by omega)
  cases e1
  rw [show (l.map up ++ [z]).getD (i : Int).toNat z = up l[i] by simp [List.getElem?_append_left, hi]] at hK
  exact ⟨cs, hK, fun j u hj => by have := hc j u hj; rwa [Int.toNat_natCast] at this⟩
theorem up_last {α β : Type} {e : Kd β} {up : α → β} {z : β} {w : World} {ad : Addr} {l : List α} (h : Kd.C e w (some ad) (l.length + 1) (l.map up ++ [z])) :
    ∃ cs, e.K w z cs ∧ ∀ j u, cs[j]? = some u → w.cell? (ad.add (l.length * e.sz + j)) = some u := by
  obtain ⟨ad', cs, e1, _, hK, hc⟩ := Kd.C_get h z (l.length : Int) (by omega) (by omega)
  cases e1
  rw [show (l.map up ++ [z]).getD (l.length : Int).toNat z = z by simp] at hK
  exact ⟨cs, hK, fun j u hj => by have := hc j u hj; rwa [Int.toNat_natCast] at this⟩
theorem T_at {w : World} {ad : Addr} {l : List S75} (h : Kd.C KTq w (some ad) (l.length + 1) (l.map upT ++ [zT])) (i : Nat) (hi : i < l.length) :
    ∃ A c, w.cell? ⟨(ad.add (i * 3)).block, (ad.add (i * 3)).off + 2, none⟩ = some (.slice A l[i].f2.length c) ∧ (l[i].f2 ++ [SPM]).length ≤ c ∧ Kd.string.C w A (l[i].f2 ++ [SPM]).length (l[i].f2 ++ [SPM]) := by
  obtain ⟨cs, hK, hc⟩ := up_at h i hi
  obtain ⟨A', c', rfl, hl, hC⟩ := q_upT hK
  exact ⟨A', c', by rw [← add_field _ _ 2 (by omega)]; exact hc 2 _ rfl, hl, hC⟩
theorem C_at {w : World} {ad : Addr} {l : List S73} (h : Kd.C KCq w (some ad) (l.length + 1) (l.map upC ++ [zC])) (i : Nat) (hi : i < l.length) :
    ∃ A c, w.cell? ⟨(ad.add (i * 3)).block, (ad.add (i * 3)).off + 2, none⟩ = some (.slice A l[i].f2.length c) ∧ (l[i].f2 ++ [SPM]).length ≤ c ∧ Kd.string.C w A (l[i].f2 ++ [SPM]).length (l[i].f2 ++ [SPM]) := by
  obtain ⟨cs, hK, hc⟩ := up_at h i hi
  obtain ⟨A', c', rfl, hl, hC⟩ := q_upC hK
  exact ⟨A', c', by rw [← add_field _ _ 2 (by omega)]; exact hc 2 _ rfl, hl, hC⟩
theorem F_at {w : World} {ad : Addr} {l : List S71} (h : Kd.C KNq w (some ad) (l.length + 1) (l.map upF ++ [zF])) (i : Nat) (hi : i < l.length) :
    ∃ A c, w.cell? ⟨(ad.add (i * 9)).block, (ad.add (i * 9)).off + 4 + 1, none⟩ = some (.slice A l[i].f4.f1.length c) ∧ (l[i].f4.f1 ++ [SPM]).length ≤ c ∧ Kd.string.C w A (l[i].f4.f1 ++ [SPM]).length (l[i].f4.f1 ++ [SPM]) := by
  obtain ⟨cs, hK, hc⟩ := up_at h i hi
  obtain ⟨A', c', rfl, hl, hC⟩ := q_upF hK
  refine ⟨A', c', ?_, hl, hC⟩
  show w.cell? ⟨(ad.add (i * 9)).block, (ad.add (i * 9)).off + 5, none⟩ = _
  rw [← add_field _ _ 5 (by omega)]
  exact hc 5 _ rfl
theorem T_last {w : World} {ad : Addr} {l : List S75} (h : Kd.C KTq w (some ad) (l.length + 1) (l.map upT ++ [zT])) : w.cell? (ad.add (l.length * 3)) = some (.string ⟨#[115, 112, 97, 114, 101]⟩) := by
  obtain ⟨cs, hK, hc⟩ := up_last h
  obtain ⟨_, _, rfl, rfl, _⟩ := hK
  exact hc 0 _ rfl
theorem C_last {w : World} {ad : Addr} {l : List S73} (h : Kd.C KCq w (some ad) (l.length + 1) (l.map upC ++ [zC])) : w.cell? ⟨(ad.add (l.length * 3)).block, (ad.add (l.length * 3)).off + 1, none⟩ = some (.string ⟨#[115, 112, 97, 114, 101]⟩) := by
  obtain ⟨cs, hK, hc⟩ := up_last h
  obtain ⟨_, _, rfl, rfl, ⟨_, _, rfl, rfl, _⟩⟩ := hK
  rw [← add_field _ _ 1 (by omega)]
  exact hc 1 _ rfl
theorem F_last {w : World} {ad : Addr} {l : List S71} (h : Kd.C KNq w (some ad) (l.length + 1) (l.map upF ++ [zF])) : w.cell? ⟨(ad.add (l.length * 9)).block, (ad.add (l.length * 9)).off + 2, none⟩ = some (.string ⟨#[115, 112, 97, 114, 101]⟩) := by
  obtain ⟨cs, hK, hc⟩ := up_last h
  obtain ⟨_, _, rfl, rfl, ⟨_, _, rfl, rfl, ⟨_, _, rfl, rfl, _⟩⟩⟩ := hK
  rw [← add_field _ _ 2 (by omega)]
  exact hc 2 _ rfl
theorem L_last {w : World} {ad : Addr} {l : List S52} (h : Kd.C k52 w (some ad) (l.length + 1) (l ++ [zL])) : w.cell? (ad.add (l.length * 4)) = some (.string ⟨#[115, 112, 97, 114, 101]⟩) := by
  obtain ⟨ad', cs, e1, _, hK, hc⟩ := Kd.C_get h zL (l.length : Int) (by omega) (by omega)
  cases e1
  rw [show (l ++ [zL]).getD (l.length : Int).toNat zL = zL by simp] at hK
  obtain ⟨_, _, rfl, rfl, _⟩ := hK
  have := hc 0 _ rfl
  rw [Int.toNat_natCast] at this
  exact this
theorem spares_any (x : List ByteArray) (A : Option Addr) (c : Nat) (w : World) (hl : (x ++ [SPM]).length ≤ c) (hC : Kd.string.C w A (x ++ [SPM]).length (x ++ [SPM])) (hx : x.length ≤ 1048576) :
    Calls Tryd.prog 21 #[.slice A x.length c] w fun en w' => en = .returned (.bool true) ∧ w' = w := by
  rw [List.length_append, List.length_singleton] at hl hC
  obtain ⟨ad, cs, rfl, _, hK, hc⟩ := Kd.C_get hC SPM (x.length : Int) (by omega) (by omega)
  have e0 : (x ++ [SPM]).getD (x.length : Int).toNat SPM = SPM := by simp
  rw [e0] at hK
  have hK' : cs = [.string SPM] := hK
  subst hK'
  have x0 : w.cell? (ad.add x.length) = some (.string ⟨#[115, 112, 97, 114, 101]⟩) := by
    have := hc 0 _ rfl
    rw [show (x.length : Int).toNat * Kd.string.sz + 0 = x.length by show (x.length : Int).toNat * 1 + 0 = x.length; omega] at this
    exact this
  have q0 : wrap64 ((x.length : Int) + 1) = (x.length : Int) + 1 := by unfold wrap64; omega
  have q1 : (0 : Int) ≤ (x.length : Int) + 1 := by omega
  have q2 : (x.length : Int) + 1 ≤ c := by omega
  have q3 : (x.length : Int) < (x.length : Int) + 1 := by omega
  have q4 : (0 : Int) ≤ (x.length : Int) := by omega
  clear hc hC e0
  go_enter Tryd.func21, Tryd.ntmps21
  go_wp2
  go_ret
  exact ⟨rfl, rfl⟩
theorem sparesControls_any (l : List S52) (A : Option Addr) (c : Nat) (w : World) (hl : l.length + 1 ≤ c) (hC : Kd.C k52 w A (l.length + 1) (l ++ [zL])) (hn : l.length ≤ 1048576) :
    Calls Tryd.prog 23 #[.slice A l.length c] w fun en w' => en = .returned (.bool true) ∧ w' = w := by
  have hu := Tryd.underlying52
  obtain ⟨ad, rfl, _⟩ := hC.2.2 (by omega)
  have q0 : wrap64 ((l.length : Int) + 1) = (l.length : Int) + 1 := by unfold wrap64; omega
  have q1 : (0 : Int) ≤ (l.length : Int) + 1 := by omega
  have q2 : (l.length : Int) + 1 ≤ c := by omega
  have q3 : (l.length : Int) < (l.length : Int) + 1 := by omega
  have q4 : (0 : Int) ≤ (l.length : Int) := by omega
  have x0 := L_last hC
  clear hC
  go_enter Tryd.func23, Tryd.ntmps23
  go_wp2
  go_ret
  exact ⟨rfl, rfl⟩
theorem sparesAttrs_any (l : List S75) (A : Option Addr) (c : Nat) (w : World) (hl : l.length + 1 ≤ c) (hC : Kd.C KTq w A (l.length + 1) (l.map upT ++ [zT])) (hn : l.length ≤ 1048576) (hx : ∀ a ∈ l, a.f2.length ≤ 1048576) :
    Calls Tryd.prog 22 #[.slice A l.length c] w fun en w' => en = .returned (.bool true) ∧ w' = w := by
  have hu := Tryd.underlying75
  obtain ⟨ad, rfl, _⟩ := hC.2.2 (by omega)
  have q0 : wrap64 ((l.length : Int) + 1) = (l.length : Int) + 1 := by unfold wrap64; omega
  have q1 : (0 : Int) ≤ (l.length : Int) + 1 := by omega
  have q2 : (l.length : Int) + 1 ≤ c := by omega
  have q3 : (l.length : Int) < (l.length : Int) + 1 := by omega
  have q4 : (0 : Int) ≤ (l.length : Int) := by omega
  have x0 := T_last hC
  have HC := Lib.hid hC
  have HX := Lib.hid hx
  clear hC hx
  go_enter Tryd.func22, Tryd.ntmps22
  go_wp2_with fail
  go_loopw [4] (fun v wr => ∃ i : Nat, v = .int .i64 i ∧ i ≤ l.length ∧ wr = w) (fun v _ => l.length - (intOf v).toNat)
  case atStart => exact ⟨0, rfl, Nat.zero_le _, by first | rfl | trivial⟩
  case round =>
    obtain ⟨i, rfl, hi, hw⟩ := hrel
    rw [hw]
    clear hw
    by_cases hil : i < l.length
    · have p : (0 : Int) ≤ i := by omega
      have q : (i : Int) < l.length := by omega
      obtain ⟨A', c', x2, hl', hC'⟩ := T_at HC.out i hil
      have hx' := HX.out l[i] (List.getElem_mem _)
      have HL' := Lib.hid hl'
      have HC' := Lib.hid hC'
      clear hl' hC'
      go_wp2_with fail
      refine (spares_any l[i].f2 A' c' _ HL'.out HC'.out hx').mono ?_
      rintro en w2 ⟨rfl, hw⟩
      rw [hw]
      clear hw x2
      go_wp2
      go_roundw
      case rel => exact ⟨i + 1, by go_num, by omega, by first | rfl | trivial⟩
      case measure => simp [intOf]; omega
    · obtain rfl : i = l.length := by omega
      go_wp2
      go_ret
      first | exact ⟨rfl, rfl⟩ | exact ⟨rfl, trivial⟩
end Go.Proofs.YtbpediccbeoifaaDoor.W
