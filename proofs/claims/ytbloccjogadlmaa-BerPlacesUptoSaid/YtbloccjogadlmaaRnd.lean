/- A region that draws its order in the body of a range over a function: the quiet walk there; the equality of two headers. -/
import Derived.Test.YtbloccjogadlmaaWEqStruct
import Derived.Test.YtbloccjogadlmaaWLast
import Derived.Test.YtbloccjogadlmaaMa
import Derived.Test.YtbloccjogadlmaaBHd
import Derived.Sort.BigQuietIn
import Derived.OrdersIn
import Derived.RangeFuncCalls
namespace Go
section
variable {F : Fence} {n : Nat} {P : Program} {ops : Array Oper} {md : Region.Mode} {C : World → Prop} {l : Nat}

/-- No operation puts a call off. -/
def noDefer : List Oper → Bool
  | [] => true
  | o :: r => (match o.op with | .defer _ => false | _ => true) && noDefer r
theorem noDefer_spec : ∀ {l : List Oper}, noDefer l = true → ∀ o ∈ l, ∀ c, o.op ≠ .defer c
  | [], _, _, h, _ => by cases h
  | o :: r, h, q, hq, c => by
    rw [noDefer, Bool.and_eq_true] at h
    rcases List.mem_cons.1 hq with rfl | h2
    · intro e; have h1 := h.1; rw [e] at h1; cases h1
    · exact noDefer_spec h.2 q h2 c

theorem op_round_of_quiet {o : Oper} {a : Act} {K : Act → Prop} {K' : Act → World → Prop} {Q' : Exit → Act → World → Prop} {w : World} (hd : ∀ c, o.op ≠ .defer c) (hw : C w) (h : ∀ a w', C w' → K a → K' a w')
    (ha : o.askedIn F P a C) (hh : o.quietIn F n P a C K) : o.wpIn F n P a w K' Q' := by
  obtain ⟨v, h1, h2⟩ := hh
  have h3 := h1 w hw
  refine ⟨ha w hw, ?_⟩
  rw [Oper.semAt_eq _ _ _ hd]
  unfold Oper.quietAtIn at h3
  match hr : (execOp a.eval o).run P w, h3 with
  | .ok (.value u) w', h3 => obtain ⟨rfl, rfl⟩ := h3; exact h _ _ hw h2
  | .ok .skip w', h3 => obtain ⟨rfl, rfl⟩ := h3; exact h _ _ hw h2
  | .ok (.enter f args) w', h3 =>
    obtain ⟨rfl, hdp, hc⟩ := h3
    exact ⟨hdp, hc.mono fun e w'' hx => by obtain ⟨rfl, hx2⟩ := hx; exact h _ _ hx2 h2⟩

theorem any_round_of_quiet {Q : Act → Prop} {Q' : Exit → Act → World → Prop} (hd : ∀ (i : Nat) (o : Oper), ops[i]? = some o → ∀ c, o.op ≠ .defer c) (hQ : ∀ a w, C w → Q a → Q' .normal a w) : ∀ (fuel : Nat) (listed : Array Bool) (a : Act) (w : World), C w →
    wpAnyQIn F n P md ops C Q fuel listed a → wpAnyIn F n P md ops Q' fuel listed a w
  | 0, _, _, _, hw, h => ⟨h.1, hQ _ _ hw h.2⟩
  | fuel + 1, listed, a, w, hw, h => ⟨fun h0 => hQ _ _ hw (h.1 h0), fun i hi => by
      have hq := h.2 i hi
      have ih := fun a' w' hw' => any_round_of_quiet hd hQ fuel (listed.setIfInBounds i true) a' w' hw'
      unfold qOpIn at hq
      unfold wpOpIn
      cases ho : ops[i]? with
      | none => rw [ho] at hq; exact ih _ _ hw hq
      | some o =>
        rw [ho] at hq
        obtain ⟨ha, hq⟩ := hq
        by_cases hg : Region.wanted o (yielded ops a.tmps) = true
        · simp only [hg, if_true] at hq ⊢
          exact op_round_of_quiet (hd i o ho) hw (fun a' w' hw' hk => ih a' w' hw' hk) ha hq
        · simp only [hg] at hq ⊢
          exact ⟨ha w hw, ih _ _ hw hq⟩⟩

/-- **One walk of the lexical order serves every order, in a round too.** -/
theorem round_quiet {id : Nat} {Q : Exit → Act → World → Prop} {a : Act} {w : World} {l : List Oper} (hm : P.follows .mixedOrders = true) (hB : Region.lexB .any l.toArray = true) (hd : noDefer l = true)
    (h : wpQuietIn F n P l.toArray (fun w' => ∃ n, w' = w.drewN n) (fun a' => ∀ w', (∃ n, w' = w.drewN n) → Q .normal a' w') l a) : (Code.region id l.toArray true).wpIn F n P Q a w := by
  simp only [Region.lexB, Bool.and_eq_true] at hB
  refine wpIn_region_any hm (any_round_of_quiet (C := fun w' => ∃ n, w' = w.drewN n) (Q := fun a' => ∀ w', (∃ n, w' = w.drewN n) → Q .normal a' w') (fun i o ho => noDefer_spec hd o ?_) (fun _ w' hw' h => h w' hw') _ _ _ _ ⟨1, rfl⟩ ?_)
  · have : l[i]? = some o := by simpa using ho
    exact List.mem_of_getElem? this
  · have := wpAnyQIn_lex (F := F) (n := n) (C := fun w' => ∃ n, w' = w.drewN n) (md := .any) hB.1 l 0 (Array.replicate l.length false) a (by simp) (by simpa using hB.2) h
    simpa using this
end
end Go
namespace Go.Proofs.Ytbloccjogadlmaa.W
open Go.RowKit Go.Proofs.YtbloccjogadlmaaW.PrintWords Go.Proofs.YtbloccjogadlmaaW.PrintLast
set_option linter.unusedVariables false
set_option linter.unusedSimpArgs false

theorem eqHd (d : Nat) (w : World) (x0 y0 : Int) (x1 y1 : Bool) (x2 y2 : Int) (x3 y3 : Int) (x4 y4 : Int) :
    (Op.equalIn (d + 2) 29 (.agg #[.int .i64 x0, .bool x1, .int .i64 x2, .int .i64 x3, .int .i64 x4]) (.agg #[.int .i64 y0, .bool y1, .int .i64 y2, .int .i64 y3, .int .i64 y4])).run Try.prog w = .ok (x0 == y0 && (x1 == y1 && (x2 == y2 && (x3 == y3 && (x4 == y4))))) w := by
  refine eqA_of Try.underlying29 (by kernel_rfl) ?_
  refine eqf_cons (by rfl) (by go_simp; rfl) (by go_simp; rfl) (by go_simp) ?_
  refine eqf_cons (by rfl) (by go_simp; rfl) (by go_simp; rfl) (by go_simp) ?_
  refine eqf_cons (by rfl) (by go_simp; rfl) (by go_simp; rfl) (by go_simp) ?_
  refine eqf_cons (by rfl) (by go_simp; rfl) (by go_simp; rfl) (by go_simp) ?_
  exact eqf_last (by rfl) (by go_simp; rfl) (by go_simp; rfl) (by go_simp)
theorem neqHd (w : World) (x0 y0 : Int) (x1 y1 : Bool) (x2 y2 : Int) (x3 y3 : Int) (x4 y4 : Int) :
    (binOp .neq 29 (.agg #[.int .i64 x0, .bool x1, .int .i64 x2, .int .i64 x3, .int .i64 x4]) (.agg #[.int .i64 y0, .bool y1, .int .i64 y2, .int .i64 y3, .int .i64 y4])).run Try.prog w = .ok (.bool (!(x0 == y0 && (x1 == y1 && (x2 == y2 && (x3 == y3 && (x4 == y4))))))) w := by
  have h := eqHd (Op.maxDepth - 2) w x0 y0 x1 y1 x2 y2 x3 y3 x4 y4
  have e : Op.maxDepth - 2 + 2 = Op.maxDepth := by decide
  rw [e] at h
  simp only [binOp, Op.equal, Sem.run_bind, h, Result.andThen_ok, Sem.run_pure]
end Go.Proofs.Ytbloccjogadlmaa.W
