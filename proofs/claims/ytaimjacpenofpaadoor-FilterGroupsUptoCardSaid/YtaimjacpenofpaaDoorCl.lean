/- slices.Clone of a list of texts, walked. -/
import Derived.Test.YtaimjacpenofpaaDoorProg
import Derived.Test.YtaimjacpenofpaaDoorFz
import Derived.Test.YtaimjacpenofpaaDoorVLast
import Derived.Test.YtaimjacpenofpaaDoorVMore
import Derived.WalkKit
import Derived.ProofKit
import Derived.Lib.Hide
import Derived.WalkSpells
import Derived.Lib.SliceRun
namespace Go.Proofs.YtaimjacpenofpaaDoor.W
open Go.RowKit Go.Proofs.YtaimjacpenofpaaDoorW.PrintWords Go.Proofs.YtaimjacpenofpaaDoorW.PrintLast
set_option linter.unusedVariables false
set_option linter.unusedSimpArgs false
theorem infoStrC : (Tryd.prog.info? 9).map (fun i => (i.zero, i.size, i.bytes)) = some (some (.string ⟨#[]⟩), 1, 16) := by kernel_rfl
theorem clone_any (A : Option Addr) (c : Nat) (l : List ByteArray) (w : World) (hr : Kd.C Kd.string w A l.length l) (hc : l.length ≤ c) (hl : l.length < 8796093022208) :
    Calls Tryd.prog 25 #[.slice A l.length c] w fun e w' => ∃ v, e = .returned v ∧ Kd.R Kd.string 9 w' w.heap.size (fun _ => True) v l ∧ Below w.heap.size w w' := by
  have qE : ∀ (w : World) (a : Option Addr) (n c : Nat), (binOp .eql 34 (.slice a n c) (.slice none 0 0)).run Tryd.prog w = .ok (.bool a.isNone) w := fun w a n c => Go.Lib.run_eql_slice_nil w _ _ a n c 0 0 Tryd.underlying34
  cases A with
  | none =>
    obtain ⟨h1, h2, h3⟩ := hr
    have h0 : l.length = 0 := by
      refine Classical.byContradiction fun h => ?_
      obtain ⟨ad, e, _⟩ := h3 (by omega)
      cases e
    obtain rfl := List.eq_nil_of_length_eq_zero h0
    go_enter Tryd.func25, Tryd.ntmps25
    go_wp2
    go_ret
    exact ⟨_, rfl, Kd.R_nil _ _ _ _ _, Below.refl _ _⟩
  | some ad =>
    have HR := Lib.hid hr
    clear hr
    go_enter Tryd.func25, Tryd.ntmps25
    go_wp2_with (first | ((with_reducible refine gate_dst (N := 5) rfl ?_); refine Kd.R_lit Kd.string _ 9 ?hg (N := 5) ?hd (xs := ([] : List ByteArray)) (inner := []) (ok := fun _ => True) (okp := fun _ => True) ?hr ?hp (fun _ hk => hk) trivial (Below.refl _ _) (Nat.le_refl _) (by simp) ?_; (case hd => rfl); (case hg => rfl); (case hr => first | (go_simp; done) | (go_simp; rfl)); (case hp => exact (Reps.none _ _)); intro v1 w1 ho1 hb1 hg1 hnew1) | ((with_reducible refine gate_builtin (b := .append) (xs := #[.tmp 5, .tmp 6]) rfl ?_); at_builtin; refine Kd.R_append_rows Kd.string (w0 := w) w.heap.size rfl (.tmp 5) (.tmp 6) 34 9 (.string ⟨#[]⟩) 16 rfl Tryd.underlying34 infoStrC rfl (by decide) (by omega) v1 ([] : List ByteArray) l _ _ _ (fun _ => True) (fun _ => False) rfl rfl ?aO ?aR (fun _ _ h => h) (fun _ h => h.elim) ?aF ?aB ?aS ?aL ?_; (case aR => exact Kd.C_below HR.out hb1); (case aB => exact hb1); (case aF => exact (fun _ _ => trivial)); (case aO => exact ho1); (case aS => exact hb1.size); (case aL => rw [List.length_nil]; omega); intro v2 w2 ho2 hb2 hg2 hat2))
    go_ret
    exact ⟨_, rfl, ho2, hb2⟩
end Go.Proofs.YtaimjacpenofpaaDoor.W
