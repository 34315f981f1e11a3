-- Written for this claim by a program of this session (wip/tools/p2.py).
import Derived.Test.YtaimjacpenofpaaDoorProg
import Derived.Test.YtaimjacpenofpaaDoorFz
import Derived.Below
import Derived.Deep.Draws
import Derived.Deep.AppendLies
import Derived.Maps.AppendAt
import Derived.OwnWalk
import Derived.Laws.BytesArg
import Derived.Laws.MakeOwn
import Derived.Laws.OwnMore
import Derived.Deep.OwnRows
import Derived.Tactics
import Derived.Lib.ConvBytes
import Derived.Laws.Slices
import Derived.WalkKit
import Derived.KernelRfl
import Derived.RowKit3
import Derived.Deep.LoopGhost
import Derived.Deep.QuietTactic
import Derived.BigQuiet
import Derived.WideLaws
import Derived.Deep.DeepCutAuto
import Derived.Deep.CutBlock
import Derived.Deep.RegionHeld3
import Derived.Laws.Rows
import Derived.Lib.AppendStr
import Derived.ArgAppend
import Derived.Laws.IdiomCopy
import Derived.OrdersHeld
import Derived.Laws.BitsLemmas
import Derived.RowKit
import Derived.Test.YtaimjacpenofpaaDoorVWords
import Derived.Test.YtaimjacpenofpaaDoorVLast
import Derived.Test.YtaimjacpenofpaaDoorVTab
import Derived.Test.YtaimjacpenofpaaDoorVFour
import Derived.Test.YtaimjacpenofpaaDoorVQPut
import Derived.Test.YtaimjacpenofpaaDoorVApart
import Derived.Test.YtaimjacpenofpaaDoorVArr
import Derived.Test.YtaimjacpenofpaaDoorVZeros
import Derived.Test.YtaimjacpenofpaaDoorVFoot
import Derived.Test.YtaimjacpenofpaaDoorVKept
import Derived.Test.YtaimjacpenofpaaDoorVShare
import Derived.Test.YtaimjacpenofpaaDoorVN
import Derived.Test.YtaimjacpenofpaaDoorVFootNe
import Derived.Test.YtaimjacpenofpaaDoorVAt
import Derived.Test.YtaimjacpenofpaaDoorVEqStruct
import Derived.Test.YtaimjacpenofpaaDoorVRepsOne
import Derived.Test.YtaimjacpenofpaaDoorVInv
import Derived.Test.YtaimjacpenofpaaDoorVInvWords
import Derived.Test.YtaimjacpenofpaaDoorVGuard
import Derived.Test.YtaimjacpenofpaaDoorVNEv
import Derived.Test.YtaimjacpenofpaaDoorVMore
namespace Go.Proofs.YtaimjacpenofpaaDoor.GC
open Go.RowKit Go.Proofs.YtaimjacpenofpaaDoorW.PrintWords Go.Proofs.YtaimjacpenofpaaDoorW.PrintLast Go.Proofs.YtaimjacpenofpaaDoorW.PrintMore
attribute [local go_sem] max2_int min2_int max_two min_two max_three min_three max_four min_four   -- for this text's walks alone
set_option linter.unusedVariables false
set_option linter.unusedSimpArgs false



def errW : Option Int → Value
 | none => .nilIface
 | some c => .iface 0 (.int .i64 c)
theorem errW_none : errW none = .nilIface := rfl
theorem errW_some (c : Int) : errW (some c) = .iface 0 (.int .i64 c) := rfl

theorem info3 : (Tryd.prog.info? 3).map (fun i => (i.zero, i.size, i.bytes)) = some (some (.int .i64 0), 1, 8) := by kernel_rfl
theorem info9 : (Tryd.prog.info? 9).map (fun i => (i.zero, i.size, i.bytes)) = some (some (.string ⟨#[]⟩), 1, 16) := by kernel_rfl
theorem info38 : (Tryd.prog.info? 38).map (fun i => (i.zero, i.size, i.bytes)) = some (some (.agg #[(.int .i64 0), (.int .i64 0), (.string ⟨#[]⟩), (.string ⟨#[]⟩), (.string ⟨#[]⟩), (.slice none 0 0), (.string ⟨#[]⟩), (.string ⟨#[]⟩), (.bool false)]), 9, 128) := by kernel_rfl
-- the values' own types
def rd_L2 (xs : List (List ByteArray)) (i : Int) : (List ByteArray) := xs.getD i.toNat ([] : List ByteArray)
theorem at_L2 {w : World} {A : Option Addr} {n : Nat} {xs : List (List ByteArray)} (h : Kd.C (Kd.slice 9 Kd.string) w A n xs) (i : Int) (h0 : 0 ≤ i) (h1 : i < n) : ∃ ad A0 c0, A = some ad ∧ w.cell? (ad.add i.toNat) = some (.slice A0 (rd_L2 xs i).length c0) ∧ (rd_L2 xs i).length ≤ c0 ∧ Kd.string.C w A0 (rd_L2 xs i).length (rd_L2 xs i) := by
 obtain ⟨ad, c, e, _, hK, hc0⟩ := Kd.C_get h ([] : List ByteArray) i h0 h1
 have hc : ∀ j u, c[j]? = some u → w.cell? (ad.add (i.toNat * 1 + j)) = some u := hc0
 obtain ⟨A0, c0, rfl, l0, g0⟩ := hK
 exact ⟨ad, A0, c0, e, by have hq := hc 0 _ rfl; rwa [Nat.mul_one, Nat.add_zero] at hq, l0, g0⟩

/-! #### struct type 36 -/
structure S36 where
 f0 : ByteArray
 f1 : (List ByteArray)
 f2 : ByteArray
def z36 : S36 := ⟨(⟨#[]⟩ : ByteArray), ([] : List ByteArray), (⟨#[]⟩ : ByteArray)⟩
def k36 : Kd S36 := Kd.iso (Kd.pair Kd.string (Kd.pair (Kd.slice 9 Kd.string) Kd.string)) (fun x : S36 => (x.f0, x.f1, x.f2))
theorem k36_heap : Kd.Heap k36 := Kd.heap_iso _ (Kd.heap_pair Kd.heap_string (Kd.heap_pair (Kd.heap_slice 9 Kd.heap_string) Kd.heap_string))
theorem k36_open {w : World} {x : S36} {cs : List Value} (h : k36.K w x cs) : ∃ A1 c1, cs = [.string x.f0, .slice A1 x.f1.length c1, .string x.f2] ∧ x.f1.length ≤ c1 ∧ Kd.string.C w A1 x.f1.length x.f1 := by
 obtain ⟨_, _, rfl, rfl, ⟨_, _, rfl, ⟨A1, c1, rfl, l1, g1⟩, rfl⟩⟩ := h
 exact ⟨A1, c1, rfl, l1, g1⟩
theorem k36_openM {w : World} {base : Nat} {ok : Nat → Prop} {x : S36} {cs : List Value} (h : k36.M w base ok x cs) : ∃ v1, cs = [.string x.f0, v1, .string x.f2] ∧ Kd.string.R 9 w base ok v1 x.f1 := by
 obtain ⟨_, _, rfl, rfl, ⟨_, _, rfl, ⟨v1, rfl, g1⟩, rfl⟩⟩ := h
 exact ⟨v1, rfl, g1⟩
theorem k36_mk (w : World) (x : S36) {A1 : Option Addr} {c1 : Nat} (l1 : x.f1.length ≤ c1) (g1 : Kd.string.C w A1 x.f1.length x.f1) : k36.K w x [.string x.f0, .slice A1 x.f1.length c1, .string x.f2] := ⟨[.string x.f0], [.slice A1 x.f1.length c1, .string x.f2], rfl, rfl, ⟨[.slice A1 x.f1.length c1], [.string x.f2], rfl, ⟨A1, c1, rfl, l1, g1⟩, rfl⟩⟩
theorem k36_mkM (w : World) (base : Nat) (ok : Nat → Prop) (x : S36) {v1 : Value} (g1 : Kd.string.R 9 w base ok v1 x.f1) : k36.M w base ok x [.string x.f0, v1, .string x.f2] := ⟨[.string x.f0], [v1, .string x.f2], rfl, rfl, ⟨[v1], [.string x.f2], rfl, ⟨v1, rfl, g1⟩, rfl⟩⟩
theorem k36_openF {W : World} {ok : Nat → Prop} {x : S36} {cs : List Value} (h : Kd.FK k36 W ok x cs) : ∃ A1 c1, cs = [.string x.f0, .slice A1 x.f1.length c1, .string x.f2] ∧ x.f1.length ≤ c1 ∧ Kd.F Kd.string W ok A1 x.f1.length x.f1 := by
 obtain ⟨A1, c1, rfl, l1, _⟩ := k36_open (Kd.FK_now h)
 exact ⟨A1, c1, rfl, l1, (fun W' hW => by obtain ⟨A1_, c1_, he, l1_, g1_⟩ := k36_open (h W' hW); injection (Option.some.inj (show some (Value.slice A1 x.f1.length c1) = some (Value.slice A1_ x.f1.length c1_) from congrArg (fun l => l[1]?) he)) with ha_ _ _; rw [ha_]; exact g1_)⟩
theorem k36_mkF (W : World) (ok : Nat → Prop) (x : S36) {A1 : Option Addr} {c1 : Nat} (l1 : x.f1.length ≤ c1) (g1 : Kd.F Kd.string W ok A1 x.f1.length x.f1) : Kd.FK k36 W ok x [.string x.f0, .slice A1 x.f1.length c1, .string x.f2] := fun W2 hW => k36_mk W2 x l1 (g1 W2 hW)
def rd_T36 (xs : List S36) (i : Int) : S36 := xs.getD i.toNat z36
theorem at_T36 {w : World} {A : Option Addr} {n : Nat} {xs : List S36} (h : Kd.C k36 w A n xs) (i : Int) (h0 : 0 ≤ i) (h1 : i < n) : ∃ ad A1 c1, A = some ad ∧ w.cell? (ad.add (i.toNat * 3)) = some (.string (rd_T36 xs i).f0) ∧ w.cell? ⟨(ad.add (i.toNat * 3)).block, (ad.add (i.toNat * 3)).off + 1, none⟩ = some (.slice A1 (rd_T36 xs i).f1.length c1) ∧ w.cell? ⟨(ad.add (i.toNat * 3)).block, (ad.add (i.toNat * 3)).off + 2, none⟩ = some (.string (rd_T36 xs i).f2) ∧ (rd_T36 xs i).f1.length ≤ c1 ∧ Kd.string.C w A1 (rd_T36 xs i).f1.length (rd_T36 xs i).f1 := by
 obtain ⟨ad, c, e, _, hK, hc0⟩ := Kd.C_get h z36 i h0 h1
 have hc : ∀ j u, c[j]? = some u → w.cell? (ad.add (i.toNat * 3 + j)) = some u := hc0
 obtain ⟨A1, c1, rfl, l1, g1⟩ := k36_open hK
 exact ⟨ad, A1, c1, e, hc 0 _ rfl, by rw [← add_field _ _ 1 (by omega)]; exact hc 1 _ rfl, by rw [← add_field _ _ 2 (by omega)]; exact hc 2 _ rfl, l1, g1⟩

/-! #### struct type 38 -/
structure S38 where
 f0 : Int
 f1 : Int
 f2 : ByteArray
 f3 : ByteArray
 f4 : S36
 f5 : ByteArray
 f6 : Bool
def z38 : S38 := ⟨(0 : Int), (0 : Int), (⟨#[]⟩ : ByteArray), (⟨#[]⟩ : ByteArray), z36, (⟨#[]⟩ : ByteArray), false⟩
def k38 : Kd S38 := Kd.iso (Kd.pair (Kd.int .i64) (Kd.pair (Kd.int .i64) (Kd.pair Kd.string (Kd.pair Kd.string (Kd.pair k36 (Kd.pair Kd.string Kd.bool)))))) (fun x : S38 => (x.f0, x.f1, x.f2, x.f3, x.f4, x.f5, x.f6))
theorem k38_heap : Kd.Heap k38 := Kd.heap_iso _ (Kd.heap_pair (Kd.heap_int .i64) (Kd.heap_pair (Kd.heap_int .i64) (Kd.heap_pair Kd.heap_string (Kd.heap_pair Kd.heap_string (Kd.heap_pair k36_heap (Kd.heap_pair Kd.heap_string Kd.heap_bool))))))
theorem k38_open {w : World} {x : S38} {cs : List Value} (h : k38.K w x cs) : ∃ A5 c5, cs = [.int .i64 x.f0, .int .i64 x.f1, .string x.f2, .string x.f3, .string x.f4.f0, .slice A5 x.f4.f1.length c5, .string x.f4.f2, .string x.f5, .bool x.f6] ∧ x.f4.f1.length ≤ c5 ∧ Kd.string.C w A5 x.f4.f1.length x.f4.f1 := by
 obtain ⟨_, _, rfl, rfl, ⟨_, _, rfl, rfl, ⟨_, _, rfl, rfl, ⟨_, _, rfl, rfl, ⟨_, _, rfl, s4, ⟨_, _, rfl, rfl, rfl⟩⟩⟩⟩⟩⟩ := h
 obtain ⟨A5, c5, rfl, l5, g5⟩ := k36_open s4
 exact ⟨A5, c5, rfl, l5, g5⟩
theorem k38_openM {w : World} {base : Nat} {ok : Nat → Prop} {x : S38} {cs : List Value} (h : k38.M w base ok x cs) : ∃ v5, cs = [.int .i64 x.f0, .int .i64 x.f1, .string x.f2, .string x.f3, .string x.f4.f0, v5, .string x.f4.f2, .string x.f5, .bool x.f6] ∧ Kd.string.R 9 w base ok v5 x.f4.f1 := by
 obtain ⟨_, _, rfl, rfl, ⟨_, _, rfl, rfl, ⟨_, _, rfl, rfl, ⟨_, _, rfl, rfl, ⟨_, _, rfl, s4, ⟨_, _, rfl, rfl, rfl⟩⟩⟩⟩⟩⟩ := h
 obtain ⟨v5, rfl, g5⟩ := k36_openM s4
 exact ⟨v5, rfl, g5⟩
theorem k38_mk (w : World) (x : S38) {A5 : Option Addr} {c5 : Nat} (l5 : x.f4.f1.length ≤ c5) (g5 : Kd.string.C w A5 x.f4.f1.length x.f4.f1) : k38.K w x [.int .i64 x.f0, .int .i64 x.f1, .string x.f2, .string x.f3, .string x.f4.f0, .slice A5 x.f4.f1.length c5, .string x.f4.f2, .string x.f5, .bool x.f6] := ⟨[.int .i64 x.f0], [.int .i64 x.f1, .string x.f2, .string x.f3, .string x.f4.f0, .slice A5 x.f4.f1.length c5, .string x.f4.f2, .string x.f5, .bool x.f6], rfl, rfl, ⟨[.int .i64 x.f1], [.string x.f2, .string x.f3, .string x.f4.f0, .slice A5 x.f4.f1.length c5, .string x.f4.f2, .string x.f5, .bool x.f6], rfl, rfl, ⟨[.string x.f2], [.string x.f3, .string x.f4.f0, .slice A5 x.f4.f1.length c5, .string x.f4.f2, .string x.f5, .bool x.f6], rfl, rfl, ⟨[.string x.f3], [.string x.f4.f0, .slice A5 x.f4.f1.length c5, .string x.f4.f2, .string x.f5, .bool x.f6], rfl, rfl, ⟨[.string x.f4.f0, .slice A5 x.f4.f1.length c5, .string x.f4.f2], [.string x.f5, .bool x.f6], rfl, (k36_mk w x.f4 l5 g5), ⟨[.string x.f5], [.bool x.f6], rfl, rfl, rfl⟩⟩⟩⟩⟩⟩
theorem k38_mkM (w : World) (base : Nat) (ok : Nat → Prop) (x : S38) {v5 : Value} (g5 : Kd.string.R 9 w base ok v5 x.f4.f1) : k38.M w base ok x [.int .i64 x.f0, .int .i64 x.f1, .string x.f2, .string x.f3, .string x.f4.f0, v5, .string x.f4.f2, .string x.f5, .bool x.f6] := ⟨[.int .i64 x.f0], [.int .i64 x.f1, .string x.f2, .string x.f3, .string x.f4.f0, v5, .string x.f4.f2, .string x.f5, .bool x.f6], rfl, rfl, ⟨[.int .i64 x.f1], [.string x.f2, .string x.f3, .string x.f4.f0, v5, .string x.f4.f2, .string x.f5, .bool x.f6], rfl, rfl, ⟨[.string x.f2], [.string x.f3, .string x.f4.f0, v5, .string x.f4.f2, .string x.f5, .bool x.f6], rfl, rfl, ⟨[.string x.f3], [.string x.f4.f0, v5, .string x.f4.f2, .string x.f5, .bool x.f6], rfl, rfl, ⟨[.string x.f4.f0, v5, .string x.f4.f2], [.string x.f5, .bool x.f6], rfl, (k36_mkM w base ok x.f4 g5), ⟨[.string x.f5], [.bool x.f6], rfl, rfl, rfl⟩⟩⟩⟩⟩⟩
theorem k38_openF {W : World} {ok : Nat → Prop} {x : S38} {cs : List Value} (h : Kd.FK k38 W ok x cs) : ∃ A5 c5, cs = [.int .i64 x.f0, .int .i64 x.f1, .string x.f2, .string x.f3, .string x.f4.f0, .slice A5 x.f4.f1.length c5, .string x.f4.f2, .string x.f5, .bool x.f6] ∧ x.f4.f1.length ≤ c5 ∧ Kd.F Kd.string W ok A5 x.f4.f1.length x.f4.f1 := by
 obtain ⟨A5, c5, rfl, l5, _⟩ := k38_open (Kd.FK_now h)
 exact ⟨A5, c5, rfl, l5, (fun W' hW => by obtain ⟨A5_, c5_, he, l5_, g5_⟩ := k38_open (h W' hW); injection (Option.some.inj (show some (Value.slice A5 x.f4.f1.length c5) = some (Value.slice A5_ x.f4.f1.length c5_) from congrArg (fun l => l[5]?) he)) with ha_ _ _; rw [ha_]; exact g5_)⟩
theorem k38_mkF (W : World) (ok : Nat → Prop) (x : S38) {A5 : Option Addr} {c5 : Nat} (l5 : x.f4.f1.length ≤ c5) (g5 : Kd.F Kd.string W ok A5 x.f4.f1.length x.f4.f1) : Kd.FK k38 W ok x [.int .i64 x.f0, .int .i64 x.f1, .string x.f2, .string x.f3, .string x.f4.f0, .slice A5 x.f4.f1.length c5, .string x.f4.f2, .string x.f5, .bool x.f6] := fun W2 hW => k38_mk W2 x l5 (g5 W2 hW)
def rd_T38 (xs : List S38) (i : Int) : S38 := xs.getD i.toNat z38
theorem at_T38 {w : World} {A : Option Addr} {n : Nat} {xs : List S38} (h : Kd.C k38 w A n xs) (i : Int) (h0 : 0 ≤ i) (h1 : i < n) : ∃ ad A5 c5, A = some ad ∧ w.cell? (ad.add (i.toNat * 9)) = some (.int .i64 (rd_T38 xs i).f0) ∧ w.cell? ⟨(ad.add (i.toNat * 9)).block, (ad.add (i.toNat * 9)).off + 1, none⟩ = some (.int .i64 (rd_T38 xs i).f1) ∧ w.cell? ⟨(ad.add (i.toNat * 9)).block, (ad.add (i.toNat * 9)).off + 2, none⟩ = some (.string (rd_T38 xs i).f2) ∧ w.cell? ⟨(ad.add (i.toNat * 9)).block, (ad.add (i.toNat * 9)).off + 3, none⟩ = some (.string (rd_T38 xs i).f3) ∧ w.cell? ⟨(ad.add (i.toNat * 9)).block, (ad.add (i.toNat * 9)).off + 4, none⟩ = some (.string (rd_T38 xs i).f4.f0) ∧ w.cell? ⟨(ad.add (i.toNat * 9)).block, (ad.add (i.toNat * 9)).off + 5, none⟩ = some (.slice A5 (rd_T38 xs i).f4.f1.length c5) ∧ w.cell? ⟨(ad.add (i.toNat * 9)).block, (ad.add (i.toNat * 9)).off + 6, none⟩ = some (.string (rd_T38 xs i).f4.f2) ∧ w.cell? ⟨(ad.add (i.toNat * 9)).block, (ad.add (i.toNat * 9)).off + 7, none⟩ = some (.string (rd_T38 xs i).f5) ∧ w.cell? ⟨(ad.add (i.toNat * 9)).block, (ad.add (i.toNat * 9)).off + 8, none⟩ = some (.bool (rd_T38 xs i).f6) ∧ (rd_T38 xs i).f4.f1.length ≤ c5 ∧ Kd.string.C w A5 (rd_T38 xs i).f4.f1.length (rd_T38 xs i).f4.f1 := by
 obtain ⟨ad, c, e, _, hK, hc0⟩ := Kd.C_get h z38 i h0 h1
 have hc : ∀ j u, c[j]? = some u → w.cell? (ad.add (i.toNat * 9 + j)) = some u := hc0
 obtain ⟨A5, c5, rfl, l5, g5⟩ := k38_open hK
 exact ⟨ad, A5, c5, e, hc 0 _ rfl, by rw [← add_field _ _ 1 (by omega)]; exact hc 1 _ rfl, by rw [← add_field _ _ 2 (by omega)]; exact hc 2 _ rfl, by rw [← add_field _ _ 3 (by omega)]; exact hc 3 _ rfl, by rw [← add_field _ _ 4 (by omega)]; exact hc 4 _ rfl, by rw [← add_field _ _ 5 (by omega)]; exact hc 5 _ rfl, by rw [← add_field _ _ 6 (by omega)]; exact hc 6 _ rfl, by rw [← add_field _ _ 7 (by omega)]; exact hc 7 _ rfl, by rw [← add_field _ _ 8 (by omega)]; exact hc 8 _ rfl, l5, g5⟩

def rd_L6 (xs : List (List S38)) (i : Int) : (List S38) := xs.getD i.toNat ([] : List S38)
theorem at_L6 {w : World} {A : Option Addr} {n : Nat} {xs : List (List S38)} (h : Kd.C (Kd.slice 38 k38) w A n xs) (i : Int) (h0 : 0 ≤ i) (h1 : i < n) : ∃ ad A0 c0, A = some ad ∧ w.cell? (ad.add i.toNat) = some (.slice A0 (rd_L6 xs i).length c0) ∧ (rd_L6 xs i).length ≤ c0 ∧ k38.C w A0 (rd_L6 xs i).length (rd_L6 xs i) := by
 obtain ⟨ad, c, e, _, hK, hc0⟩ := Kd.C_get h ([] : List S38) i h0 h1
 have hc : ∀ j u, c[j]? = some u → w.cell? (ad.add (i.toNat * 1 + j)) = some u := hc0
 obtain ⟨A0, c0, rfl, l0, g0⟩ := hK
 exact ⟨ad, A0, c0, e, by have hq := hc 0 _ rfl; rwa [Nat.mul_one, Nat.add_zero] at hq, l0, g0⟩

end Go.Proofs.YtaimjacpenofpaaDoor.GC
