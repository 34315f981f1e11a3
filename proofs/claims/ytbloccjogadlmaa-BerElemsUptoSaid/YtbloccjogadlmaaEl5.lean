/- The law BerElems, walked. -/
import Derived.Test.YtbloccjogadlmaaEs
import Derived.Test.YtbloccjogadlmaaRnd
import Derived.Sort.CutIn
import Derived.Test.YtbloccjogadlmaaRp
import Derived.Test.YtbloccjogadlmaaRt
import Derived.Test.YtbloccjogadlmaaGRx3
namespace Go.Proofs.Ytbloccjogadlmaa.W
open Go.RowKit Go.Shelf Go.Proofs.Ytbloccjogadlmaa.GR Go.Proofs.YtbloccjogadlmaaW.PrintWords Go.Proofs.YtbloccjogadlmaaW.PrintLast
set_option linter.unusedVariables false
set_option linter.unusedSimpArgs false
attribute [local go_sem] Oper.semAt_some

theorem refElems_any (s : ByteArray) (w : World) (hs : s.size ≤ 2097152) :
    Calls Try.prog 8 #[.string s] w fun en w' => ∃ v : Value, en = .returned v ∧ Kd.R k31 31 w' w.heap.size (fun _ => True) v ((walkS s).1.map plU) ∧ Below w.heap.size w w' := by
  obtain ⟨k, hk⟩ := walk_f s hs
  have hk : rosterref02_walk.f k s = some (walkU s) := hk k (Nat.le_refl _)
  refine rosterref02_Elems.calls k s ((walkS s).1.map plU) w ?_
  unfold rosterref02_Elems.f
  rw [hk]
  unfold walkU
  split <;> rfl

theorem at_kept {B b t : Nat} {cs : Array Value} {X Y : World} {row : Option Nat} (h : At X b t cs) (hg : X.grownBy Y row) (hr : ∀ r, row = some r → B ≤ r ∧ ∃ o : Obj, X.heap[r]? = some o ∧ o.isCells = false) : At Y b t cs := by
  refine (hg.block b h.lt (fun e => ?_)).trans h
  obtain ⟨_, o, ho, hc⟩ := hr b e.symm
  rw [show X.heap[b]? = _ from h] at ho
  injection ho with ho
  subst ho
  cases hc
theorem kpc_own {β : Type} {S : Nat → Prop} {B : Nat} {W0 : World} : OwnFrom B (fun (_ : β) W => KpC S W0 W) := by
  intro _ X Y row hs hg hr
  refine ⟨Nat.le_trans hs.1 hg.size, fun k o h1 h2 h3 => ?_⟩
  have h4 := hs.2 k o h1 h2 h3
  refine (hg.block k (Array.getElem?_eq_some_iff.1 h4).1 (fun e => ?_)).trans h4
  obtain ⟨_, q, ho, hc⟩ := hr k e.symm
  rw [h4] at ho
  injection ho with ho
  subst ho
  rw [hc] at h2
  cases h2
theorem KpC.alloc {S : Nat → Prop} {W W' : World} (h : KpC S W W') (o : Obj) : KpC S W (W'.alloc o) := ⟨Nat.le_trans h.1 (by simp), fun k q h1 h2 h3 => (Below.heap_alloc W' o k (Array.getElem?_eq_some_iff.1 (h.2 k q h1 h2 h3)).1).trans (h.2 k q h1 h2 h3)⟩
theorem KpC.set {S : Nat → Prop} {W W' : World} (h : KpC S W W') {b i : Nat} (u : Value) (hb : S b) : KpC S W (W'.setCell ⟨b, i, none⟩ u) := ⟨Nat.le_trans h.1 (by simp), fun k q h1 h2 h3 => (Below.heap_setCell W' _ u k (fun e => by subst e; exact h3 hb)).trans (h.2 k q h1 h2 h3)⟩
theorem kf_set (B : Nat) (W : World) (nq : Nat) (a : Addr) (v : Value) : KeepsFrom B W ((W.drewN nq).setCell a v) := ⟨(KeepsOthers.setCell (W.drewN nq) a v).size, fun k o _ hk ho => (KeepsOthers.setCell (W.drewN nq) a v).same k o hk ho⟩
theorem boxAt {W : World} {b t : Nat} {v : Value} (h : At W b t #[v]) : Boxed W b t v := h

/-- One place of the list that the document tells, cell by cell. -/
theorem pl_cells {W : World} {base c : Nat} {ok : Nat → Prop} {A : Option Addr} {L : List S31} (h : Kd.R k31 31 W base ok (.slice A L.length c) L) (k : Nat) (hk : k < L.length) : ∃ g, A = some ⟨g, 0, none⟩ ∧
    W.cell? ⟨g, k * 6, none⟩ = some (.int .i64 (rd_T31 L k).f0) ∧ W.cell? ⟨g, k * 6 + 1, none⟩ = some (.int .i64 (rd_T31 L k).f1.f0) ∧ W.cell? ⟨g, k * 6 + 2, none⟩ = some (.bool (rd_T31 L k).f1.f1) ∧
    W.cell? ⟨g, k * 6 + 3, none⟩ = some (.int .i64 (rd_T31 L k).f1.f2) ∧ W.cell? ⟨g, k * 6 + 4, none⟩ = some (.int .i64 (rd_T31 L k).f1.f3) ∧ W.cell? ⟨g, k * 6 + 5, none⟩ = some (.int .i64 (rd_T31 L k).f1.f4) := by
  obtain ⟨_, _, hC⟩ := Kd.R_reads' h
  obtain ⟨ad, rfl, h0, h1, h2, h3, h4, h5⟩ := at_T31 hC (k : Int) (by omega) (by omega)
  obtain ⟨g, rfl⟩ := Kd.R_head h
  have ha : (⟨g, 0, none⟩ : Addr).add (k * 6) = ⟨g, k * 6, none⟩ := by unfold Addr.add; by_cases e : k * 6 = 0 <;> simp [e]
  simp only [Int.toNat_natCast, ha] at h0 h1 h2 h3 h4 h5
  exact ⟨g, rfl, h0, h1, h2, h3, h4, h5⟩
def plOf (x : Int × Hd) : S31 := ⟨x.1, ⟨x.2.cls, x.2.made, x.2.tag, x.2.len, x.2.size⟩⟩


theorem row_kept {S : Nat → Prop} {W1 W0 W : World} {base : Nat} {v : Value} {L : List S31} (h : Kd.R k31 31 W1 base (fun _ => True) v L) (hb : Below W1.heap.size W1 W0) (hK : KpC S W0 W) (hS : ∀ k, base ≤ k → k < W1.heap.size → ¬ S k) :
    Kd.R k31 31 W base (fun _ => True) v L :=
  Kd.R_mono (Kd.R_step (Kd.R_bound h) (fun k ho hlt => by
    obtain ⟨_, hb1, hb2, q, _, cells, hc⟩ := ho
    have h0 := (hb.block k hb2).trans hc
    rw [hc]
    exact hK.2 k _ h0 rfl (hS k hb1 hb2))) (fun _ _ => trivial)
/-- Between two rounds. -/
def ElI (P : List (Int × Hd)) (w W0 : World) (bN bR : Nat) (pre : List (Int × Hd)) (W : World) : Prop :=
  ((pre <+: P ∧ Boxed W bN 3 (.int .i64 pre.length)) ∧ Boxed W bR 4 (.bool false)) ∧ KpC (fun k => k = bN ∨ k = bR) W0 W ∧ Below w.heap.size w W
theorem elI_own {P : List (Int × Hd)} {w W0 : World} {bN bR B : Nat} (hB : w.heap.size ≤ B) : OwnFrom B (ElI P w W0 bN bR) :=
  OwnFrom.and (OwnFrom.and (fun s X Y row hs hg hr => ⟨hs.1, (boxed_own (β := List (Int × Hd)) bN 3 (fun pre => .int .i64 pre.length)) s X Y row hs.2 hg (fun r e => (hr r e).2)⟩) (Own.from (boxed_own _ _ _) _)) (OwnFrom.and kpc_own (ownFrom_below (Nat.le_refl _) hB))
def ElX (P : List (Int × Hd)) (stop : Int) (w W0 : World) (bN bR : Nat) (c : Code) (pre : List (Int × Hd)) (W : World) : Prop :=
  (c = .ret ∧ ¬ pre <+: P) ∨ (c = .exit 0 ∧ (pre.length : Int) = stop ∧ ElI P w W0 bN bR pre W)
theorem elX_own {P : List (Int × Hd)} {stop : Int} {w W0 : World} {bN bR B : Nat} (hB : w.heap.size ≤ B) (c : Code) : OwnFrom B (ElX P stop w W0 bN bR c) := fun s X Y row hs hg hr =>
  hs.elim .inl (fun h => .inr ⟨h.1, h.2.1, elI_own hB s X Y row h.2.2 hg hr⟩)
theorem no_prefix {P pre : List (Int × Hd)} {x : Int × Hd} (h : ¬ pre.length < P.length) : ¬ pre ++ [x] <+: P := fun hp => by
  have := hp.length_le
  simp at this
  omega
theorem pre_at {P pre : List (Int × Hd)} {x : Int × Hd} (hp : pre ++ [x] <+: P) : P.getD pre.length (0, ⟨0, false, 0, 0, 0⟩) = x := by
  obtain ⟨t, rfl⟩ := hp
  simp
theorem pre_of {P pre : List (Int × Hd)} {x : Int × Hd} (h : pre <+: P) (hl : pre.length < P.length) (hx : P.getD pre.length (0, ⟨0, false, 0, 0, 0⟩) = x) : pre ++ [x] <+: P := by
  obtain ⟨t, rfl⟩ := h
  cases t with
  | nil => simp at hl
  | cons y t =>
    simp at hx
    subst hx
    exact ⟨t, by simp⟩
theorem rd_pl {P : List (Int × Hd)} {k : Nat} (h : k < P.length) : rd_T31 (P.map plOf) k = plOf (P.getD k (0, ⟨0, false, 0, 0, 0⟩)) := by
  unfold rd_T31
  simp [h]

def eqB (y : S31) (x : Int × Hd) : Bool := (y.f1.f0 == x.2.cls && (y.f1.f1 == x.2.made && (y.f1.f2 == x.2.tag && (y.f1.f3 == x.2.len && (y.f1.f4 == x.2.size)))))
theorem same_pl {q x : Int × Hd} {y : S31} (h : plOf q = y) (h1 : y.f0 = x.1) (h2 : eqB y x = true) : q = x := by
  subst h
  obtain ⟨qa, qc, qm, qt, ql, qs⟩ := q
  obtain ⟨xa, xc, xm, xt, xl, xs⟩ := x
  simp [eqB, plOf] at h1 h2
  obtain ⟨h3, h4, h5, h6, h7⟩ := h2
  subst h1 h3 h4 h5 h6 h7
  rfl
theorem same_of {x : Int × Hd} {y : S31} (h : plOf x = y) : y.f0 = x.1 ∧ eqB y x = true := by
  subst h
  simp [eqB, plOf]
/-- The place number pre.length of what the document tells is x just if x may come next. -/
theorem next_yes {P pre : List (Int × Hd)} {L : List S31} {x : Int × Hd} {y : S31} (hL : L = P.map plOf) (hp : pre <+: P) (hk : pre.length < L.length) (hy : rd_T31 L pre.length = y) (h1 : y.f0 = x.1) (h2 : eqB y x = true) : pre ++ [x] <+: P := by
  subst hL
  rw [List.length_map] at hk
  rw [rd_pl hk] at hy
  exact pre_of hp hk (same_pl hy h1 h2)
theorem next_no {P pre : List (Int × Hd)} {L : List S31} {x : Int × Hd} {y : S31} (hL : L = P.map plOf) (hk : pre.length < L.length) (hy : rd_T31 L pre.length = y) (h : y.f0 ≠ x.1 ∨ eqB y x = false) : ¬ pre ++ [x] <+: P := by
  intro hp
  subst hL
  rw [List.length_map] at hk
  rw [rd_pl hk, pre_at hp] at hy
  obtain ⟨h1, h2⟩ := same_of hy
  rcases h with h | h
  · exact h h1
  · rw [h2] at h; cases h
theorem none_next {P pre : List (Int × Hd)} {L : List S31} {x : Int × Hd} (hL : L = P.map plOf) (hk : ¬ pre.length < L.length) : ¬ pre ++ [x] <+: P := by
  subst hL
  rw [List.length_map] at hk
  exact no_prefix hk
theorem elI_step {P : List (Int × Hd)} {w W0 W : World} {bN bR nq : Nat} {pre : List (Int × Hd)} {x : Int × Hd} {v : Int} (h : ElI P w W0 bN bR pre W) (hp : pre ++ [x] <+: P) (hv : v = (pre.length : Int) + 1) (hne : bR ≠ bN) (hB : w.heap.size ≤ bN) :
    ElI P w W0 bN bR (pre ++ [x]) ((W.drewN nq).setCell ⟨bN, 0, none⟩ (.int .i64 v)) := by
  obtain ⟨⟨⟨_, hN⟩, hR⟩, hK, hb⟩ := h
  refine ⟨⟨⟨hp, ?_⟩, Boxed.other (W := W.drewN nq) hR hne _⟩, KpC.set (W' := W.drewN nq) hK _ (.inl rfl), (pw_below_drewN hb nq).setCell (p := ⟨bN, 0, none⟩) hB _⟩
  have e : ((pre ++ [x]).length : Int) = v := by simp [hv]
  rw [e]
  exact Boxed.set (W := W.drewN nq) _ hN

theorem kpc_in {S S3 : Nat → Prop} {A Wm W' : World} (h : KpC S A Wm) (k : KpC S3 Wm W') (hs : ∀ i, i < A.heap.size → S3 i → S i) : KpC S A W' :=
  ⟨Nat.le_trans h.1 k.1, fun i o h1 h2 h3 => k.2 i o (h.2 i o h1 h2 h3) h2 (fun h4 => h3 (hs i (Array.getElem?_eq_some_iff.1 h1).1 h4))⟩
theorem kpc_weak {S S3 : Nat → Prop} {A W' : World} (h : KpC S A W') (hs : ∀ i, S i → S3 i) : KpC S3 A W' := ⟨h.1, fun i o h1 h2 h3 => h.2 i o h1 h2 (fun h4 => h3 (hs i h4))⟩
theorem kf_mono {B B' : Nat} {W W' : World} (h : KeepsFrom B W W') (hB : B ≤ B') : KeepsFrom B' W W' := ⟨h.size, fun k o h1 h2 h3 => h.same k o (by omega) h2 h3⟩

set_option maxRecDepth 100000 in
set_option maxHeartbeats 4000000 in
theorem BerElems_in (n : Nat) (hn : 20 ≤ n) (s : ByteArray) (stop : Int) (w : World) (hs : s.size ≤ 1048576) :
    CallsIn Fence.wide n Try.prog 3 #[.string s, .int .i64 stop] w fun en w' => en = .returned (.bool true) ∧ Below w.heap.size w w' := by
  have hfe : ∀ (fn : Fn) (x y : Array Value) (W : World), (binOp .eql 25 (.func fn x y) .nilFunc).run Try.prog W = .ok (.bool false) W := fun _ _ _ _ => rfl
  obtain ⟨P, hP⟩ : ∃ P, places s = P := ⟨_, rfl⟩
  obtain ⟨L, hL⟩ : ∃ L, (walkS s).1.map plU = L := ⟨_, rfl⟩
  have HLP : Hid (L = P.map plOf) := by rw [← hL, ← hP]; unfold places; rw [List.map_map]; rfl
  have HES : Hid (∀ (m : Nat) (S : Nat → Prop) (gb : Nat) (W : World), 2 ≤ m → (∀ k, S k → k < W.heap.size) → At W gb 9 #[.string s] → SeqStopsK Fence.wide m Try.prog 21 #[.pointer (some ⟨gb, 0, none⟩)] yv (KpC S) (fun xs => xs = P) (fun pre => pre <+: P) P.length W) := by
    intro m S gb W h1 h2 h3
    rw [← hP]
    exact ElemsC_stops m h1 S gb s W (by omega) h2 h3
  clear hP
  refine callsIn_of_wp_marks Try.func3 rfl trivial ?_ rfl
  simp only [Try.ntmps3, List.size_toArray, List.length_cons, List.length_nil, Nat.reduceAdd, Nat.reduceSub, Array.replicate_succ, Array.replicate_zero, List.push_toArray, List.append_toArray, List.nil_append, List.cons_append]
  gi_wp2_with fail
  refine ⟨trivial, fun _ => by omega, ?_⟩
  refine (callsIn_wide.2 (refElems_any s _ (by omega))).mono ?_
  rintro en w1 ⟨v, rfl, hR, hb⟩
  rw [hL] at hR
  obtain ⟨A, c, rfl⟩ := Kd.R_slice hR
  gi_wp2_with fail
  refine ⟨trivial, fun _ => by omega, ?_⟩
  refine (callsIn_wide.2 (Elems_any s _)).mono ?_
  rintro en w2 ⟨rfl, rfl⟩
  gi_wp2_with fail
  have hz1 : w.heap.size + 2 ≤ w1.heap.size := by have := hb.size; simpa using this
  have hbw : Below w.heap.size w w1 := (((Below.refl _ w).alloc (Nat.le_refl _) _).alloc (by simp) _).trans (hb.mono (by simp; omega))
  have kS := (boxAt ((At.new w 3 #[.int .i64 stop]).alloc (.cells #[.bool false] 4))).kept (row := none) (grown_of_below hb) (by simp)
  have kR := (boxAt (At.new (w.alloc (.cells #[.int .i64 stop] 3)) 4 #[.bool false])).kept (row := none) (grown_of_below hb) (by simp)
  obtain ⟨W0, hW0⟩ : ∃ W0, (((w1.alloc (.cells #[.slice A L.length c] 22)).alloc (.cells #[.string s] 9)).alloc (.cells #[.func (.func 21) #[] #[.pointer (some ⟨w1.heap.size + 1, 0, none⟩)]] 25)).alloc (.cells #[.int .i64 0] 3) = W0 := ⟨_, rfl⟩
  have hB10 : Below w1.heap.size w1 W0 := by rw [← hW0]; exact ((((Below.refl _ w1).alloc (Nat.le_refl _) _).alloc (by simp) _).alloc (by simp; omega) _).alloc (by simp; omega) _
  have hz0 : W0.heap.size = w1.heap.size + 4 := by rw [← hW0]; simp
  have kS0 : Boxed W0 w.heap.size 3 (.int .i64 stop) := kS.kept (row := none) (grown_of_below hB10) (by simp)
  have kR0 : Boxed W0 (w.heap.size + 1) 4 (.bool false) := by have := kR.kept (row := none) (grown_of_below hB10) (by simp); simpa using this
  have kW0 : Boxed W0 w1.heap.size 22 (.slice A L.length c) := by rw [← hW0]; exact (((Boxed.new w1 _ _).alloc _).alloc _).alloc _
  have kT0 : Boxed W0 (w1.heap.size + 1) 9 (.string s) := by rw [← hW0]; have := ((Boxed.new (w1.alloc (.cells #[.slice A L.length c] 22)) 9 (.string s)).alloc (.cells #[.func (.func 21) #[] #[.pointer (some ⟨w1.heap.size + 1, 0, none⟩)]] 25)).alloc (.cells #[.int .i64 0] 3); simpa using this
  have kQ0 : Boxed W0 (w1.heap.size + 1 + 1) 25 (.func (.func 21) #[] #[.pointer (some ⟨w1.heap.size + 1, 0, none⟩)]) := by rw [← hW0]; have := (Boxed.new ((w1.alloc (.cells #[.slice A L.length c] 22)).alloc (.cells #[.string s] 9)) 25 (.func (.func 21) #[] #[.pointer (some ⟨w1.heap.size + 1, 0, none⟩)])).alloc (.cells #[.int .i64 0] 3); simpa using this
  have kN0 : Boxed W0 (w1.heap.size + 1 + 1 + 1) 3 (.int .i64 0) := by rw [← hW0]; have := Boxed.new (((w1.alloc (.cells #[.slice A L.length c] 22)).alloc (.cells #[.string s] 9)).alloc (.cells #[.func (.func 21) #[] #[.pointer (some ⟨w1.heap.size + 1, 0, none⟩)]] 25)) 3 (.int .i64 0); simpa using this
  have hBw0 : Below w.heap.size w W0 := hbw.trans (hB10.mono (by omega))
  rw [hW0]
  clear hW0 kS kR hb
  have hbase : (((w.alloc (.cells #[.int .i64 stop] 3)).alloc (.cells #[.bool false] 4)).heap.size) = w.heap.size + 2 := by simp
  rw [hbase] at hR
  clear hbase
  have HLM : Hid (L.length ≤ 9223372036854775807) := by
    obtain ⟨inner, ho⟩ := Kd.R_own hR
    rcases ho.2 with ⟨_, h1⟩ | ⟨g, cap, cur, h1, h2, h3, h4, h5, h6, h7⟩
    · unfold Hid; rw [h1]; omega
    · have : maxLen = 9223372036854775807 := rfl
      unfold Hid
      omega
  have HR := Lib.hid hR
  clear hR hL
  obtain ⟨bS, hbS⟩ : ∃ bS, bS = w.heap.size := ⟨_, rfl⟩
  obtain ⟨bR, hbR⟩ : ∃ bR, bR = w.heap.size + 1 := ⟨_, rfl⟩
  obtain ⟨bW, hbW⟩ : ∃ bW, bW = w1.heap.size := ⟨_, rfl⟩
  obtain ⟨bT, hbT⟩ : ∃ bT, bT = w1.heap.size + 1 := ⟨_, rfl⟩
  obtain ⟨bQ, hbQ⟩ : ∃ bQ, bQ = w1.heap.size + 1 + 1 := ⟨_, rfl⟩
  obtain ⟨bN, hbN⟩ : ∃ bN, bN = w1.heap.size + 1 + 1 + 1 := ⟨_, rfl⟩
  rw [← hbS] at kS0
  rw [← hbR] at kR0
  rw [← hbN] at kN0
  rw [← hbQ, ← hbT] at kQ0
  rw [← hbT] at kT0
  rw [← hbW] at kW0
  rw [← hbN, ← hbQ, ← hbT, ← hbR, ← hbW, ← hbS]
  have HBB : Hid (bS = w.heap.size ∧ bR = w.heap.size + 1 ∧ bW = w1.heap.size ∧ bT = w1.heap.size + 1 ∧ bQ = w1.heap.size + 2 ∧ bN = w1.heap.size + 3) := ⟨hbS, hbR, hbW, hbT, hbQ, hbN⟩
  clear hbS hbR hbW hbT hbQ hbN
  rename_i Kx hKx
  have hRow : Hid (∀ (S : Nat → Prop) (W : World), KpC S W0 W → (∀ k, S k → k < w.heap.size + 2 ∨ w1.heap.size ≤ k) → Kd.R k31 31 W (w.heap.size + 2) (fun _ => True) (.slice A L.length c) L) :=
    fun S W hK hS => row_kept HR.out hB10 hK (fun k h1 h2 h3 => by have := hS k h3; omega)
  have hSlt : ∀ k, (k = bN ∨ k = bR) → k < W0.heap.size := by have := HBB.out; omega
  have hnS : ∀ b, b = bS ∨ b = bW ∨ b = bT ∨ b = bQ → ¬ (b = bN ∨ b = bR) := by have := HBB.out; omega
  have hSok : ∀ k, (k = bN ∨ k = bR) → k < w.heap.size + 2 ∨ w1.heap.size ≤ k := by have := HBB.out; omega
  have hRest : ∀ (D : Nat) (pre : List (Int × Hd)) (W : World), W0.heap.size ≤ D → (pre = P ∨ ((pre.length : Int) = stop ∧ pre <+: P)) → ElI P w W0 bN bR pre W → W.heap[D]? = some (.deferred (some [])) →
      Kx { tmps := (.string s :: .int .i64 stop :: undef :: .pointer (some ⟨bS, 0, none⟩) :: .pointer (some ⟨bR, 0, none⟩) :: .pointer (some ⟨bW, 0, none⟩) :: .pointer (some ⟨bQ, 0, none⟩) :: .pointer (some ⟨bN, 0, none⟩) :: undef :: undef :: undef :: undef :: undef :: undef :: undef :: .string s :: .slice A L.length c :: .string s :: .func (.func 21) #[] #[.pointer (some ⟨bT, 0, none⟩)] :: .func (.func 21) #[] #[.pointer (some ⟨bT, 0, none⟩)] :: .bool false :: .func (.func 21) #[] #[.pointer (some ⟨bT, 0, none⟩)] :: undef :: undef :: undef :: undef :: undef :: undef :: undef :: undef :: undef :: undef :: undef :: undef :: undef :: undef :: undef :: undef :: undef :: undef :: undef :: undef :: undef :: undef :: undef :: undef :: undef :: undef :: undef :: undef :: undef :: undef :: undef :: undef :: undef :: undef :: undef :: undef :: undef :: undef :: undef :: undef :: undef :: undef :: undef :: undef :: undef :: undef :: undef :: undef :: undef :: undef :: undef :: undef :: undef :: undef :: undef :: undef :: undef :: undef :: undef :: undef :: undef :: undef :: undef :: undef :: undef :: undef :: undef :: undef :: undef :: undef :: undef :: undef :: undef :: undef :: undef :: undef :: undef :: undef :: undef :: undef :: undef :: undef :: undef :: undef :: undef :: undef :: undef :: undef :: undef :: undef :: undef :: undef :: undef :: undef :: undef :: undef :: undef :: undef :: undef :: undef :: undef :: undef :: undef :: undef :: undef :: undef :: undef :: [] : List Value).toArray, defers := [{ target := .collected D, args := #[] }] } W := by
    intro D pre W hD hcase hI hKD
    obtain ⟨⟨⟨hp, hN⟩, hRs⟩, hK0, hB0⟩ := id hI
    have kS : Boxed W bS 3 (.int .i64 stop) := boxAt (hK0.at kS0 (hnS _ (.inl rfl)))
    have kW : Boxed W bW 22 (.slice A L.length c) := boxAt (hK0.at kW0 (hnS _ (.inr (.inl rfl))))
    have kQ : Boxed W bQ 25 (.func (.func 21) #[] #[.pointer (some ⟨bT, 0, none⟩)]) := boxAt (hK0.at kQ0 (hnS _ (.inr (.inr (.inr rfl)))))
    have cS := kS.cell
    have cW := kW.cell
    have cN := hN.cell
    have fN := hN.frozen
    have cR := hRs.cell
    have fR := hRs.frozen
    have cQ := kQ.cell
    have hcond : Hid ((pre.length : Int) = L.length ∨ (pre.length : Int) = stop) := by
      rcases hcase with h | h
      · left; rw [h, HLP.out, List.length_map]
      · exact .inr h.1
    have HI := Lib.hid hI
    have HKD := Lib.hid hKD
    clear hI hKD hcase
    refine hKx _ _ ?_
    gi_upto_region 13 with fail
    gi_cut [59] from 51 (fun s59 wc => s59 = .bool false ∧ wc = W)
    case first =>
      by_cases he : (pre.length : Int) = L.length
      · have h1 : ((pre.length : Int) != L.length) = false := by simp [he]
        clear he
        gi_wp2_with fail
        gi_meet
        case rel => exact ⟨rfl, rfl⟩
      · have h1 : ((pre.length : Int) != L.length) = true := by simp [he]
        have h2 : ((pre.length : Int) != stop) = false := by
          rcases hcond.out with h | h
          · exact absurd h he
          · simp [h]
        clear he
        gi_wp2_with fail
        gi_meet
        case rel => exact ⟨rfl, rfl⟩
    case rest =>
      obtain ⟨rfl, rfl⟩ := hcut
      have hSN := HBB.out
      have n1 : bS ≠ bN := by omega
      have n2 : bN ≠ bS := by omega
      have n3 : bR ≠ bN := by omega
      have n4 : bN ≠ bR := by omega
      have n5 : bQ ≠ bN := by omega
      have n6 : bN ≠ bQ := by omega
      have n7 : bW ≠ bN := by omega
      have n8 : bN ≠ bW := by omega
      clear hSN
      gi_wp2_with fail
      have hI3 : ElI P w W0 bN bR [] (wc.setCell ⟨bN, 0, none⟩ (.int .i64 0)) := by
        obtain ⟨⟨⟨_, q2⟩, q3⟩, q4, q5⟩ := HI.out
        exact ⟨⟨⟨List.nil_prefix, Boxed.set _ q2⟩, Boxed.other q3 n3 _⟩, q4.set _ (.inl rfl), q5.setCell (p := ⟨bN, 0, none⟩) (by have := HBB.out; simp; omega) _⟩
      have hKD3 : (wc.setCell ⟨bN, 0, none⟩ (.int .i64 0)).heap[D]? = some (.deferred (some [])) := (KeepsOthers.setCell wc _ _).same D _ HKD.out rfl
      have hz3 : W0.heap.size ≤ (wc.setCell ⟨bN, 0, none⟩ (.int .i64 0)).heap.size := Nat.le_trans hK0.1 (by simp)
      obtain ⟨W3, hW3⟩ : ∃ W3, wc.setCell ⟨bN, 0, none⟩ (.int .i64 0) = W3 := ⟨_, rfl⟩
      rw [hW3] at hI3 hKD3 hz3 ⊢
      clear hW3 HI HKD kS kW kQ cS cW cN fN cR fR cQ hN hRs hp hB0 hK0
      obtain ⟨⟨⟨_, hN3⟩, hR3⟩, hK3, hB3⟩ := hI3
      have hlt3 : ∀ b, b < W0.heap.size → b < W3.heap.size := fun b h => by omega
      refine wpIn_rangeFunc_ownH rfl (by omega) (gf := 21) (lb := #[.pointer (some ⟨bT, 0, none⟩)]) (by rfl) trivial (enters_of Try.func21 (by kernel_rfl) rfl)
        (HES.out (n - 1) (fun k => k = bN ∨ k = bR) bT W3 (by omega) (fun k h => hlt3 k (hSlt k h)) (hK3.at kT0 (hnS _ (.inr (.inr (.inl rfl)))))) (fun h k => kpC_t h k) kpC_b (Below.refl _ _) (fun _ => rfl)
        (fun pre W => ElI P w W3 bN bR pre W ∧ KeepsFrom W0.heap.size W3 W) (fun c pre W => c = .ret ∧ ¬ pre <+: P) (OwnFrom.and (elI_own (by have := HBB.out; omega)) (fun _ X Y row hs hg hr => ownFrom_keepsFrom (β := Unit) (Nat.le_refl _) () X Y row hs hg hr)) (fun c => ownFrom_pure _ _)
        ⟨⟨⟨⟨List.nil_prefix, hN3⟩, hR3⟩, KpC.refl _ _, hB3⟩, KeepsFrom.refl _ _⟩
        (fun x a' W => ∃ Bx, W3.heap.size ≤ Bx ∧ At W Bx 29 #[.int .i64 x.2.cls, .bool x.2.made, .int .i64 x.2.tag, .int .i64 x.2.len, .int .i64 x.2.size] ∧ a' = { tmps := (.string s :: .int .i64 stop :: undef :: .pointer (some ⟨bS, 0, none⟩) :: .pointer (some ⟨bR, 0, none⟩) :: .pointer (some ⟨bW, 0, none⟩) :: .pointer (some ⟨bQ, 0, none⟩) :: .pointer (some ⟨bN, 0, none⟩) :: undef :: undef :: .int .i64 x.1 :: .pointer (some ⟨Bx, 0, none⟩) :: undef :: undef :: undef :: .string s :: .slice A L.length c :: .string s :: .func (.func 21) #[] #[.pointer (some ⟨bT, 0, none⟩)] :: .func (.func 21) #[] #[.pointer (some ⟨bT, 0, none⟩)] :: .bool false :: .func (.func 21) #[] #[.pointer (some ⟨bT, 0, none⟩)] :: undef :: undef :: undef :: undef :: undef :: undef :: undef :: undef :: undef :: undef :: undef :: undef :: undef :: undef :: undef :: undef :: undef :: undef :: undef :: undef :: undef :: undef :: undef :: undef :: undef :: undef :: undef :: undef :: undef :: u51 :: u52 :: u53 :: u54 :: u55 :: u56 :: u57 :: u58 :: .bool false :: .func (.func 21) #[] #[.pointer (some ⟨bT, 0, none⟩)] :: .int .i64 x.1 :: hdV x.2 :: u63 :: u64 :: u65 :: u66 :: u67 :: u68 :: u69 :: u70 :: u71 :: u72 :: u73 :: u74 :: u75 :: u76 :: u77 :: u78 :: u79 :: u80 :: u81 :: u82 :: u83 :: u84 :: u85 :: u86 :: u87 :: u88 :: u89 :: u90 :: u91 :: u92 :: u93 :: u94 :: u95 :: u96 :: u97 :: u98 :: u99 :: u100 :: u101 :: u102 :: u103 :: u104 :: u105 :: u106 :: u107 :: u108 :: u109 :: u110 :: u111 :: u112 :: u113 :: u114 :: u115 :: u116 :: u117 :: u118 :: u119 :: u120 :: u121 :: u122 :: u123 :: u124 :: u125 :: u126 :: u127 :: u128 :: [] : List Value).toArray, defers := [] })
        (fun x a' _ X Y row hs hg hr => by obtain ⟨Bx, e1, e2, e3⟩ := hs; exact ⟨Bx, e1, at_kept e2 hg hr, e3⟩)
        ?assign ?body ?done ?stop
      case assign =>
        rintro l pre x W K ⟨⟨⟨⟨hp, hN⟩, hRs⟩, hK0, hB0⟩, hKF⟩ hK
        dsimp only [yv, hdV]
        gi_wp2_with fail
        exact hK _ _ ((KeepsOthers.alloc _ _).from _) ((KpC.refl _ W).alloc _) ⟨⟨⟨⟨hp, hN.alloc _⟩, hRs.alloc _⟩, hK0.alloc _, hB0.alloc hB0.size _⟩, hKF.trans ((KeepsOthers.alloc _ _).from _)⟩ ⟨W.heap.size, hK0.1, At.new W _ _, rfl⟩
      case body =>
        rintro l pre x a' W hl ⟨rr, hrr⟩ ⟨hI, hKF⟩ ⟨Bx, hBx, hX, rfl⟩ hlt
        obtain ⟨⟨⟨hp, hN⟩, hRs⟩, hK03, hB0⟩ := id hI
        have hK0 := kpC_t hK3 hK03
        have kS : Boxed W bS 3 (.int .i64 stop) := boxAt (hK0.at kS0 (hnS _ (.inl rfl)))
        have kW : Boxed W bW 22 (.slice A L.length c) := boxAt (hK0.at kW0 (hnS _ (.inr (.inl rfl))))
        have kQ : Boxed W bQ 25 (.func (.func 21) #[] #[.pointer (some ⟨bT, 0, none⟩)]) := boxAt (hK0.at kQ0 (hnS _ (.inr (.inr (.inr rfl)))))
        have kT : Boxed W bT 9 (.string s) := boxAt (hK0.at kT0 (hnS _ (.inr (.inr (.inl rfl)))))
        have hrow := hRow.out _ W hK0 hSok
        have cS := kS.cell
        have cW := kW.cell
        have cN := hN.cell
        have fN := hN.frozen
        have cR := hRs.cell
        have fR := hRs.frozen
        have cQ := kQ.cell
        have x0 := (hX.cell 0).trans rfl
        have x1 := (hX.cell 1).trans rfl
        have x2 := (hX.cell 2).trans rfl
        have x3 := (hX.cell 3).trans rfl
        have x4 := (hX.cell 4).trans rfl
        have hnq := neqHd
        by_cases hk : pre.length < L.length
        · obtain ⟨g, rfl, y0, y1, y2, y3, y4, y5⟩ := pl_cells hrow pre.length hk
          obtain ⟨y, hy⟩ : ∃ y, rd_T31 L pre.length = y := ⟨_, rfl⟩
          rw [hy] at y0 y1 y2 y3 y4 y5
          have HYY := Lib.hid hy
          clear hy hrow
          have hdk : decide (L.length ≤ pre.length) = false := by simp; exact hk
          have HKK := Lib.hid hk
          by_cases e1 : y.f0 = x.1
          · have h1 : (y.f0 != x.1) = false := by simp [e1]
            cases e2 : (y.f1.f0 == x.2.cls && (y.f1.f1 == x.2.made && (y.f1.f2 == x.2.tag && (y.f1.f3 == x.2.len && (y.f1.f4 == x.2.size))))) with
            | true =>
              have HPX : Hid (pre ++ [x] <+: P) := next_yes HLP.out hp HKK.out HYY.out e1 e2
              have HW : Hid (wrap64 ((pre.length : Int) + 1) = (pre.length : Int) + 1) := wr64s pre.length HKK.out HLM.out
              have HI := Lib.hid hI
              have HKF := Lib.hid hKF
              have HRR := Lib.hid hrr
              have HKW := Lib.hid hK0
              clear hI hKF hrr hK0
              gi_wp2_with fail
              refine round_quiet (by kernel_rfl) (by kernel_rfl) (by kernel_rfl) ?_
              repeat (gi_big_quiet_step (fail))
              refine wpQuietIn_nil ?_
              intro _ hw'
              obtain ⟨nq, rfl⟩ := hw'
              gi_upto_region 22 with fail
              clear x0 x1 x2 x3 x4 y0 y1 y2 y3 y4 y5
              gi_cut [93] from 63 (fun s93 wx => (∃ b, s93 = .bool b) ∧ wx = (W.drewN nq).setCell ⟨bN, 0, none⟩ (.int .i64 (wrap64 ((pre.length : Int) + 1))))
              case first =>
                by_cases g1 : wrap64 ((pre.length : Int) + 1) = 1
                · have g2 : (wrap64 ((pre.length : Int) + 1) != 1) = false := by simp [g1]
                  clear g1
                  gi_wp2_with fail
                  gi_meet
                  case rel => exact ⟨⟨_, rfl⟩, rfl⟩
                · have g2 : (wrap64 ((pre.length : Int) + 1) != 1) = true := by simp [g1]
                  clear g1
                  gi_wp2_with fail
                  gi_meet
                  case rel => exact ⟨⟨_, rfl⟩, rfl⟩
              case rest =>
                obtain ⟨⟨b, rfl⟩, rfl⟩ := hcut
                have hI2 := elI_step (nq := nq) HI.out HPX.out HW.out n3 (by have := HBB.out; omega)
                have hKF2 : KeepsFrom W0.heap.size W ((W.drewN nq).setCell ⟨bN, 0, none⟩ (.int .i64 (wrap64 ((pre.length : Int) + 1)))) := kf_set _ _ _ _ _
                have hKC2 : KpC (fun k => k = bN ∨ k = bR) W ((W.drewN nq).setCell ⟨bN, 0, none⟩ (.int .i64 (wrap64 ((pre.length : Int) + 1)))) := KpC.set (W' := W.drewN nq) (KpC.refl _ W) _ (.inl rfl)
                have hrr2 : ((W.drewN nq).setCell ⟨bN, 0, none⟩ (.int .i64 (wrap64 ((pre.length : Int) + 1)))).heap[l]? = some (.loop rr) := hKF2.same l _ (by omega) HRR.out rfl
                obtain ⟨W2, hW2⟩ : ∃ W2, (W.drewN nq).setCell ⟨bN, 0, none⟩ (.int .i64 (wrap64 ((pre.length : Int) + 1))) = W2 := ⟨_, rfl⟩
                rw [hW2] at hI2 hKF2 hKC2 hrr2 ⊢
                have hKW2 : KpC (fun k => k = bN ∨ k = bR) W0 W2 := kpC_t HKW.out hKC2
                have kQ2 : Boxed W2 bQ 25 (.func (.func 21) #[] #[.pointer (some ⟨bT, 0, none⟩)]) := boxAt (hKW2.at kQ0 (hnS _ (.inr (.inr (.inr rfl)))))
                have cQ2 := kQ2.cell
                have lQ2 := kQ2.lt
                clear hW2 HI cS cW cN fN cR fR cQ e1 h1 e2 hN hRs
                cases b with
                | true =>
                  gi_wp2_with fail
                  exact ⟨kf_mono hKF2 hz3, hKC2, hI2, HKF.out.trans hKF2⟩
                | false =>
                  have kW2 : Boxed W2 bW 22 (.slice (some ⟨g, 0, none⟩) L.length c) := boxAt (hKW2.at kW0 (hnS _ (.inr (.inl rfl))))
                  have kT2 : Boxed W2 bT 9 (.string s) := boxAt (hKW2.at kT0 (hnS _ (.inr (.inr (.inl rfl)))))
                  have hz2 : W0.heap.size ≤ W2.heap.size := hKW2.1
                  gi_wp2_with fail
                  obtain ⟨bM, hbM⟩ : ∃ bM, bM = W2.heap.size := ⟨_, rfl⟩
                  rw [← hbM]
                  have HBM : Hid (bM = W2.heap.size) := hbM
                  obtain ⟨Wm, hWm⟩ : ∃ Wm, W2.alloc (.cells #[.int .i64 0] 3) = Wm := ⟨_, rfl⟩
                  have kM : Boxed Wm bM 3 (.int .i64 0) := by rw [← hWm, hbM]; exact Boxed.new W2 3 _
                  have hzm : Wm.heap.size = bM + 1 := by rw [← hWm, hbM]; simp
                  have hBm : Below W2.heap.size W2 Wm := by rw [← hWm]; exact (Below.refl _ _).alloc (Nat.le_refl _) _
                  have kWm : Boxed Wm bW 22 (.slice (some ⟨g, 0, none⟩) L.length c) := kW2.kept (row := none) (grown_of_below hBm) (by simp)
                  have kTm : Boxed Wm bT 9 (.string s) := kT2.kept (row := none) (grown_of_below hBm) (by simp)
                  have kRm : Boxed Wm bR 4 (.bool false) := hI2.1.2.kept (row := none) (grown_of_below hBm) (by simp)
                  have kNm : Boxed Wm bN 3 (.int .i64 (pre ++ [x]).length) := hI2.1.1.2.kept (row := none) (grown_of_below hBm) (by simp)
                  have hrm : Wm.heap[l]? = some (.loop rr) := (hBm.block l (Array.getElem?_eq_some_iff.1 hrr2).1).trans hrr2
                  have hKFm : KeepsFrom W0.heap.size W2 Wm := by rw [← hWm]; exact (KeepsOthers.alloc _ _).from _
                  have hKCm : KpC (fun k => k = bN ∨ k = bR) W0 Wm := by rw [← hWm]; exact hKW2.alloc _
                  have hKC3 : KpC (fun k => k = bN ∨ k = bR) W3 Wm := by rw [← hWm]; exact hI2.2.1.alloc _
                  have hKCw : KpC (fun k => k = bN ∨ k = bR) W Wm := by rw [← hWm]; exact hKC2.alloc _
                  have hBwm : Below w.heap.size w Wm := by rw [← hWm]; exact hI2.2.2.alloc hI2.2.2.size _
                  rw [hWm]
                  clear hWm hbM
                  have hbig : Hid (bN < bM ∧ bR < bM ∧ bW < bM ∧ bT < bM ∧ w.heap.size ≤ bM) := by have := HBB.out; have := HBM.out; unfold Hid; omega
                  refine wpIn_rangeFunc_ownN (l₀ := l) (r₀ := rr) rfl hrm (by omega) (gf := 21) (lb := #[.pointer (some ⟨bT, 0, none⟩)]) (by rfl) trivial (enters_of Try.func21 (by kernel_rfl) rfl)
                    ((HES.out (n - 1 - 1 - 1) (fun k => k = bM ∨ k = bR) bT Wm (by omega) (fun k h => by have := hbig.out; omega) kTm).inRound l) (fun h k => kpC_t h k) kpC_b (Below.refl _ _) (fun _ => rfl)
                    (fun pre' W' => ElI P w Wm bM bR pre' W' ∧ KeepsFrom W0.heap.size Wm W') (fun c pre' W' => c = .ret ∧ ¬ pre' <+: P) (OwnFrom.and (elI_own (by have := hbig.out; omega)) (fun _ X Y row hs hg hr => ownFrom_keepsFrom (β := Unit) (Nat.le_refl _) () X Y row hs hg hr)) (fun c => ownFrom_pure _ _)
                    ⟨⟨⟨⟨List.nil_prefix, kM⟩, kRm⟩, KpC.refl _ _, hBwm⟩, KeepsFrom.refl _ _⟩
                    (fun y a' W' => ∃ By, Wm.heap.size ≤ By ∧ At W' By 29 #[.int .i64 y.2.cls, .bool y.2.made, .int .i64 y.2.tag, .int .i64 y.2.len, .int .i64 y.2.size] ∧ a' = { tmps := (.string s :: .int .i64 stop :: undef :: .pointer (some ⟨bS, 0, none⟩) :: .pointer (some ⟨bR, 0, none⟩) :: .pointer (some ⟨bW, 0, none⟩) :: .pointer (some ⟨bQ, 0, none⟩) :: .pointer (some ⟨bN, 0, none⟩) :: undef :: undef :: .int .i64 x.1 :: .pointer (some ⟨Bx, 0, none⟩) :: .pointer (some ⟨bM, 0, none⟩) :: .int .i64 y.1 :: .pointer (some ⟨By, 0, none⟩) :: .string s :: .slice (some ⟨g, 0, none⟩) L.length c :: .string s :: .func (.func 21) #[] #[.pointer (some ⟨bT, 0, none⟩)] :: .func (.func 21) #[] #[.pointer (some ⟨bT, 0, none⟩)] :: .bool false :: .func (.func 21) #[] #[.pointer (some ⟨bT, 0, none⟩)] :: undef :: undef :: undef :: undef :: undef :: undef :: undef :: undef :: undef :: undef :: undef :: undef :: undef :: undef :: undef :: undef :: undef :: undef :: undef :: undef :: undef :: undef :: undef :: undef :: undef :: undef :: undef :: undef :: undef :: u51 :: u52 :: u53 :: u54 :: u55 :: u56 :: u57 :: u58 :: .bool false :: .func (.func 21) #[] #[.pointer (some ⟨bT, 0, none⟩)] :: .int .i64 x.1 :: hdV x.2 :: u63 :: u64 :: u65 :: u66 :: u67 :: u68 :: u69 :: u70 :: u71 :: u72 :: u73 :: u74 :: u75 :: u76 :: u77 :: u78 :: u79 :: u80 :: u81 :: u82 :: u83 :: u84 :: u85 :: u86 :: u87 :: u88 :: u89 :: u90 :: u91 :: u92 :: .bool false :: .func (.func 21) #[] #[.pointer (some ⟨bT, 0, none⟩)] :: .int .i64 y.1 :: hdV y.2 :: u97 :: u98 :: u99 :: u100 :: u101 :: u102 :: u103 :: u104 :: u105 :: u106 :: u107 :: u108 :: u109 :: u110 :: u111 :: u112 :: u113 :: u114 :: u115 :: u116 :: u117 :: u118 :: u119 :: u120 :: u121 :: u122 :: u123 :: u124 :: u125 :: u126 :: u127 :: u128 :: [] : List Value).toArray, defers := [] })
                    (fun y a' _ X Y row hs hg hr => by obtain ⟨By, e1, e2, e3⟩ := hs; exact ⟨By, e1, at_kept e2 hg hr, e3⟩)
                    ?assign2 ?body2 ?done2 ?stop2
                  case assign2 =>
                    rintro l2 pre' y W' K ⟨⟨⟨⟨hp', hN'⟩, hR'⟩, hK', hB'⟩, hKF'⟩ hK
                    dsimp only [yv, hdV]
                    gi_wp2_with fail
                    exact hK _ _ ((KeepsOthers.alloc _ _).from _) ((KpC.refl _ W').alloc _) ⟨⟨⟨⟨hp', hN'.alloc _⟩, hR'.alloc _⟩, hK'.alloc _, hB'.alloc hB'.size _⟩, hKF'.trans ((KeepsOthers.alloc _ _).from _)⟩ ⟨W'.heap.size, hK'.1, At.new W' _ _, rfl⟩
                  case body2 =>
                    rintro l2 pre' z a'' W' hl2 _ ⟨hI', hKF'⟩ ⟨By, hBy, hY, rfl⟩ _
                    obtain ⟨⟨⟨hp', hN'⟩, hR'⟩, hK', hB'⟩ := id hI'
                    have kW' : Boxed W' bW 22 (.slice (some ⟨g, 0, none⟩) L.length c) := boxAt (hK'.at kWm (by have := HBB.out; have := hbig.out; omega))
                    have hrow' := hRow.out _ W' (kpC_t (kpc_weak hKCm (S3 := fun k => (k = bN ∨ k = bR) ∨ k = bM) (fun _ => .inl)) (kpc_weak hK' (S3 := fun k => (k = bN ∨ k = bR) ∨ k = bM) (fun _ h => h.elim .inr (fun h => .inl (.inr h))))) (fun k h => by have := HBB.out; have := hbig.out; omega)
                    have cW := kW'.cell
                    have cM := hN'.cell
                    have fM := hN'.frozen
                    have cR := hR'.cell
                    have fR := hR'.frozen
                    have x0 := (hY.cell 0).trans rfl
                    have x1 := (hY.cell 1).trans rfl
                    have x2 := (hY.cell 2).trans rfl
                    have x3 := (hY.cell 3).trans rfl
                    have x4 := (hY.cell 4).trans rfl
                    by_cases hk' : pre'.length < L.length
                    · obtain ⟨g2, hg2, y0, y1, y2, y3, y4, y5⟩ := pl_cells hrow' pre'.length hk'
                      injection hg2 with hg2
                      injection hg2 with hg2
                      subst hg2
                      obtain ⟨q, hy⟩ : ∃ q, rd_T31 L pre'.length = q := ⟨_, rfl⟩
                      rw [hy] at y0 y1 y2 y3 y4 y5
                      have HYY' := Lib.hid hy
                      clear hy hrow'
                      have hdk' : decide (L.length ≤ pre'.length) = false := by simp; exact hk'
                      have HKK' := Lib.hid hk'
                      by_cases e1 : q.f0 = z.1
                      · have h1 : (q.f0 != z.1) = false := by simp [e1]
                        cases e2 : (q.f1.f0 == z.2.cls && (q.f1.f1 == z.2.made && (q.f1.f2 == z.2.tag && (q.f1.f3 == z.2.len && (q.f1.f4 == z.2.size))))) with
                        | true =>
                          have HPX' : Hid (pre' ++ [z] <+: P) := next_yes HLP.out hp' HKK'.out HYY'.out e1 e2
                          have HW' : Hid (wrap64 ((pre'.length : Int) + 1) = (pre'.length : Int) + 1) := wr64s pre'.length HKK'.out HLM.out
                          have HI' := Lib.hid hI'
                          have HKF' := Lib.hid hKF'
                          clear hI' hKF'
                          gi_wp2_with fail
                          refine round_quiet (by kernel_rfl) (by kernel_rfl) (by kernel_rfl) ?_
                          repeat (gi_big_quiet_step (fail))
                          refine wpQuietIn_nil ?_
                          intro _ hw'
                          obtain ⟨nq2, rfl⟩ := hw'
                          gi_wp2_with fail
                          exact ⟨kf_set _ _ _ _ _, KpC.set (W' := W'.drewN nq2) (KpC.refl _ W') _ (.inl rfl), elI_step HI'.out HPX'.out HW'.out (by have := hbig.out; omega) (by have := hbig.out; omega), HKF'.out.trans (kf_set _ _ _ _ _)⟩
                        | false =>
                          have HPX' : Hid (¬ pre' ++ [z] <+: P) := next_no HLP.out HKK'.out HYY'.out (.inr e2)
                          gi_wp2_with fail
                          refine round_quiet (by kernel_rfl) (by kernel_rfl) (by kernel_rfl) ?_
                          repeat (gi_big_quiet_step (fail))
                          refine wpQuietIn_nil ?_
                          intro _ hw'
                          obtain ⟨nq2, rfl⟩ := hw'
                          gi_wp2_with fail
                          exact ⟨kf_set _ _ _ _ _, rfl, HPX'.out⟩
                      · have h1 : (q.f0 != z.1) = true := by simp [e1]
                        have HPX' : Hid (¬ pre' ++ [z] <+: P) := next_no HLP.out HKK'.out HYY'.out (.inl e1)
                        clear e1
                        gi_wp2_with fail
                        refine round_quiet (by kernel_rfl) (by kernel_rfl) (by kernel_rfl) ?_
                        repeat (gi_big_quiet_step (fail))
                        refine wpQuietIn_nil ?_
                        intro _ hw'
                        obtain ⟨nq2, rfl⟩ := hw'
                        gi_wp2_with fail
                        exact ⟨kf_set _ _ _ _ _, rfl, HPX'.out⟩
                    · have hdk' : decide (L.length ≤ pre'.length) = true := by simp; omega
                      have HPX' : Hid (¬ pre' ++ [z] <+: P) := none_next HLP.out hk'
                      clear hk'
                      gi_wp2_with fail
                      refine round_quiet (by kernel_rfl) (by kernel_rfl) (by kernel_rfl) ?_
                      repeat (gi_big_quiet_step (fail))
                      refine wpQuietIn_nil ?_
                      intro _ hw'
                      obtain ⟨nq2, rfl⟩ := hw'
                      gi_wp2_with fail
                      exact ⟨kf_set _ _ _ _ _, rfl, HPX'.out⟩
                  case done2 =>
                    rintro ys W' rfl ⟨⟨⟨⟨_, hN'⟩, hR'⟩, hK', hB'⟩, hKF'⟩
                    have kW' : Boxed W' bW 22 (.slice (some ⟨g, 0, none⟩) L.length c) := boxAt (hK'.at kWm (by have := HBB.out; have := hbig.out; omega))
                    have kN' : Boxed W' bN 3 (.int .i64 (pre ++ [x]).length) := boxAt (hK'.at kNm (by have := HBB.out; have := hbig.out; omega))
                    have eL : ys.length = L.length := by rw [HLP.out, List.length_map]
                    rw [eL] at hN'
                    have cW := kW'.cell
                    have cM := hN'.cell
                    have HN := Lib.hid kN'
                    clear kN'
                    gi_wp2_with fail
                    have hsub : ∀ (A : World), A.heap.size ≤ bM → ∀ i, i < A.heap.size → (i = bM ∨ i = bR) → (i = bN ∨ i = bR) := fun A hA i hi h => by omega
                    refine ⟨kf_mono (hKF2.trans (hKFm.trans hKF')) hz3, kpc_in hKCw hK' (hsub W (by have := HBM.out; have := hKC2.1; omega)), ⟨⟨⟨HPX.out, HN.out⟩, hR'⟩, kpc_in hKC3 hK' (hsub W3 (by have := HBM.out; have := hI2.2.1.1; omega)), hB'⟩, HKF.out.trans (hKF2.trans (hKFm.trans hKF'))⟩
                  case stop2 =>
                    rintro cc pre' W' hpre ⟨rfl, hX⟩
                    exact absurd hpre hX
            | false =>
              have HPX : Hid (¬ pre ++ [x] <+: P) := next_no HLP.out HKK.out HYY.out (.inr e2)
              gi_wp2_with fail
              refine round_quiet (by kernel_rfl) (by kernel_rfl) (by kernel_rfl) ?_
              repeat (gi_big_quiet_step (fail))
              refine wpQuietIn_nil ?_
              intro _ hw'
              obtain ⟨nq, rfl⟩ := hw'
              gi_wp2_with fail
              exact ⟨kf_set _ _ _ _ _, rfl, HPX.out⟩
          · have h1 : (y.f0 != x.1) = true := by simp [e1]
            have HPX : Hid (¬ pre ++ [x] <+: P) := next_no HLP.out HKK.out HYY.out (.inl e1)
            clear e1
            gi_wp2_with fail
            refine round_quiet (by kernel_rfl) (by kernel_rfl) (by kernel_rfl) ?_
            repeat (gi_big_quiet_step (fail))
            refine wpQuietIn_nil ?_
            intro _ hw'
            obtain ⟨nq, rfl⟩ := hw'
            gi_wp2_with fail
            exact ⟨kf_set _ _ _ _ _, rfl, HPX.out⟩
        · have hdk : decide (L.length ≤ pre.length) = true := by simp; omega
          have HPX : Hid (¬ pre ++ [x] <+: P) := none_next HLP.out hk
          clear hk
          gi_wp2_with fail
          refine round_quiet (by kernel_rfl) (by kernel_rfl) (by kernel_rfl) ?_
          repeat (gi_big_quiet_step (fail))
          refine wpQuietIn_nil ?_
          intro _ hw'
          obtain ⟨nq, rfl⟩ := hw'
          gi_wp2_with fail
          exact ⟨kf_set _ _ _ _ _, rfl, HPX.out⟩
      case done =>
        rintro D2 xs W hD2 rfl ⟨⟨⟨⟨_, hN⟩, hRs⟩, hK03, hB0⟩, hKF⟩ hKD2
        have hKD1 : W.heap[D]? = some (.deferred (some [])) := hKF.same D _ hD hKD3 rfl
        have kW : Boxed W bW 22 (.slice A L.length c) := boxAt ((kpC_t hK3 hK03).at kW0 (hnS _ (.inr (.inl rfl))))
        have eL : xs.length = L.length := by rw [HLP.out, List.length_map]
        rw [eL] at hN
        have hDD : D ≠ D2 := by
          have := (Array.getElem?_eq_some_iff.1 hKD3).1
          omega
        have cW := kW.cell
        have cN := hN.cell
        have cR := hRs.cell
        have fR := hRs.frozen
        gi_wp2_with fail
        have hK2' := (KeepsOthers.setCell W ⟨bR, 0, none⟩ (.bool true)).same D2 _ hKD2 rfl
        have hK1' := (KeepsOthers.setCell W ⟨bR, 0, none⟩ (.bool true)).same D _ hKD1 rfl
        have hK1'' : ((W.setCell ⟨bR, 0, none⟩ (.bool true)).putObj D2 (.deferred none)).heap[D]? = some (.deferred (some [])) := (World.putObj_heap_other hDD).trans hK1'
        refine ⟨by simp, .inl ⟨_, _, rfl, run_takeDeferred hK2', by simp, .inl ⟨_, _, rfl, run_takeDeferred hK1'', ?_⟩⟩⟩
        have hc1 := cell_kept (hRs.set (.bool true)).cell (grownBy_putObj' _ D2 (.deferred none)) (fun r e => by cases e; exact ⟨_, hK2', rfl⟩)
        have hc2 := cell_kept hc1 (grownBy_putObj' _ D (.deferred none)) (fun r e => by cases e; exact ⟨_, hK1'', rfl⟩)
        have hzD : w.heap.size ≤ D := by have := HBB.out; omega
        have hzD2 : w.heap.size ≤ D2 := by omega
        refine ⟨.bool true, ?_, rfl, ((hB0.setCell (p := ⟨bR, 0, none⟩) (by have := HBB.out; simp; omega) _).trans (belowK_b (w := w) (Nat.le_refl _) _ D2 _ _ hzD2 hK2' rfl rfl)).trans (belowK_b (w := w) (Nat.le_refl _) _ D _ _ hzD hK1'' rfl rfl)⟩
        simp [results, Try.f3, go_sem, hc2]
      case stop =>
        rintro D2 cc pre W hD2 hpre ⟨rfl, hX⟩ hKD2
        exact absurd hpre hX
  refine wpIn_rangeFunc_ownH rfl (by omega) (gf := 21) (lb := #[.pointer (some ⟨bT, 0, none⟩)]) (by rfl) trivial (enters_of Try.func21 (by kernel_rfl) rfl)
    (HES.out (n - 1) (fun k => k = bN ∨ k = bR) bT W0 (by omega) hSlt kT0) (fun h k => kpC_t h k) kpC_b (Below.refl _ _) (fun _ => rfl)
    (ElI P w W0 bN bR) (ElX P stop w W0 bN bR) (elI_own (by omega)) (elX_own (by omega))
    ⟨⟨⟨List.nil_prefix, kN0⟩, kR0⟩, KpC.refl _ _, hBw0⟩
    (fun x a' W => ∃ Bx, W0.heap.size ≤ Bx ∧ At W Bx 29 #[.int .i64 x.2.cls, .bool x.2.made, .int .i64 x.2.tag, .int .i64 x.2.len, .int .i64 x.2.size] ∧ a' = { tmps := (.string s :: .int .i64 stop :: undef :: .pointer (some ⟨bS, 0, none⟩) :: .pointer (some ⟨bR, 0, none⟩) :: .pointer (some ⟨bW, 0, none⟩) :: .pointer (some ⟨bQ, 0, none⟩) :: .pointer (some ⟨bN, 0, none⟩) :: .int .i64 x.1 :: .pointer (some ⟨Bx, 0, none⟩) :: undef :: undef :: undef :: undef :: undef :: .string s :: .slice A L.length c :: .string s :: .func (.func 21) #[] #[.pointer (some ⟨bT, 0, none⟩)] :: .func (.func 21) #[] #[.pointer (some ⟨bT, 0, none⟩)] :: .bool false :: .func (.func 21) #[] #[.pointer (some ⟨bT, 0, none⟩)] :: .int .i64 x.1 :: hdV x.2 :: undef :: undef :: undef :: undef :: undef :: undef :: undef :: undef :: undef :: undef :: undef :: undef :: undef :: undef :: undef :: undef :: undef :: undef :: undef :: undef :: undef :: undef :: undef :: undef :: undef :: undef :: undef :: undef :: undef :: undef :: undef :: undef :: undef :: undef :: undef :: undef :: undef :: undef :: undef :: undef :: undef :: undef :: undef :: undef :: undef :: undef :: undef :: undef :: undef :: undef :: undef :: undef :: undef :: undef :: undef :: undef :: undef :: undef :: undef :: undef :: undef :: undef :: undef :: undef :: undef :: undef :: undef :: undef :: undef :: undef :: undef :: undef :: undef :: undef :: undef :: undef :: undef :: undef :: undef :: undef :: undef :: undef :: undef :: undef :: undef :: undef :: undef :: undef :: undef :: undef :: undef :: undef :: undef :: undef :: undef :: undef :: undef :: undef :: undef :: undef :: undef :: undef :: undef :: undef :: undef :: [] : List Value).toArray, defers := [] })
    (fun x a' _ X Y row hs hg hr => by obtain ⟨Bx, e1, e2, e3⟩ := hs; exact ⟨Bx, e1, at_kept e2 hg hr, e3⟩)
    ?assign ?body ?done ?stop
  case assign =>
    rintro l pre x W K ⟨⟨⟨hp, hN⟩, hRs⟩, hK0, hB0⟩ hK
    dsimp only [yv, hdV]
    gi_wp2_with fail
    exact hK _ _ ((KeepsOthers.alloc _ _).from _) ((KpC.refl _ W).alloc _) ⟨⟨⟨hp, hN.alloc _⟩, hRs.alloc _⟩, hK0.alloc _, hB0.alloc hB0.size _⟩ ⟨W.heap.size, hK0.1, At.new W _ _, rfl⟩
  case body =>
    rintro l pre x a' W hl _ hI ⟨Bx, hBx, hX, rfl⟩ hlt
    obtain ⟨⟨⟨hp, hN⟩, hRs⟩, hK0, hB0⟩ := id hI
    have kS : Boxed W bS 3 (.int .i64 stop) := boxAt (hK0.at kS0 (hnS _ (.inl rfl)))
    have kW : Boxed W bW 22 (.slice A L.length c) := boxAt (hK0.at kW0 (hnS _ (.inr (.inl rfl))))
    have hrow := hRow.out _ W hK0 hSok
    have cS := kS.cell
    have cW := kW.cell
    have cN := hN.cell
    have fN := hN.frozen
    have cR := hRs.cell
    have fR := hRs.frozen
    have x0 := (hX.cell 0).trans rfl
    have x1 := (hX.cell 1).trans rfl
    have x2 := (hX.cell 2).trans rfl
    have x3 := (hX.cell 3).trans rfl
    have x4 := (hX.cell 4).trans rfl
    have hnq := neqHd
    by_cases hk : pre.length < L.length
    · obtain ⟨g, rfl, y0, y1, y2, y3, y4, y5⟩ := pl_cells hrow pre.length hk
      obtain ⟨y, hy⟩ : ∃ y, rd_T31 L pre.length = y := ⟨_, rfl⟩
      rw [hy] at y0 y1 y2 y3 y4 y5
      have HYY := Lib.hid hy
      clear hy hrow
      have hdk : decide (L.length ≤ pre.length) = false := by simp; exact hk
      have HKK := Lib.hid hk
      by_cases e1 : y.f0 = x.1
      · have h1 : (y.f0 != x.1) = false := by simp [e1]
        cases e2 : (y.f1.f0 == x.2.cls && (y.f1.f1 == x.2.made && (y.f1.f2 == x.2.tag && (y.f1.f3 == x.2.len && (y.f1.f4 == x.2.size))))) with
        | true =>
          have HPX : Hid (pre ++ [x] <+: P) := next_yes HLP.out hI.1.1.1 HKK.out HYY.out e1 e2
          have hSN := HBB.out
          have n1 : bS ≠ bN := by omega
          have n2 : bN ≠ bS := by omega
          have n3 : bR ≠ bN := by omega
          have n4 : w.heap.size ≤ bN := by omega
          clear hSN
          have HI := Lib.hid hI
          have HW : Hid (wrap64 ((pre.length : Int) + 1) = (pre.length : Int) + 1) := wr64s pre.length HKK.out HLM.out
          clear hI
          gi_wp2_with fail
          refine round_quiet (by kernel_rfl) (by kernel_rfl) (by kernel_rfl) ?_
          repeat (gi_big_quiet_step (fail))
          refine wpQuietIn_nil ?_
          intro _ hw'
          obtain ⟨nq, rfl⟩ := hw'
          gi_wp2_with fail
          · rename_i hst
            have hv := HW.out
            have hst2 : (pre.length : Int) + 1 = stop := by rw [← hv]; simpa using hst
            exact ⟨kf_set _ _ _ _ _, .inr ⟨rfl, by simpa using hst2, elI_step HI.out HPX.out hv n3 n4⟩⟩
          · exact ⟨kf_set _ _ _ _ _, KpC.set (W' := W.drewN nq) (KpC.refl _ W) _ (.inl rfl), elI_step HI.out HPX.out HW.out n3 n4⟩
        | false =>
          have HPX : Hid (¬ pre ++ [x] <+: P) := next_no HLP.out HKK.out HYY.out (.inr e2)
          gi_wp2_with fail
          refine round_quiet (by kernel_rfl) (by kernel_rfl) (by kernel_rfl) ?_
          repeat (gi_big_quiet_step (fail))
          refine wpQuietIn_nil ?_
          intro _ hw'
          obtain ⟨nq, rfl⟩ := hw'
          gi_wp2_with fail
          exact ⟨kf_set _ _ _ _ _, .inl ⟨rfl, HPX.out⟩⟩
      · have h1 : (y.f0 != x.1) = true := by simp [e1]
        have HPX : Hid (¬ pre ++ [x] <+: P) := next_no HLP.out HKK.out HYY.out (.inl e1)
        clear e1
        gi_wp2_with fail
        refine round_quiet (by kernel_rfl) (by kernel_rfl) (by kernel_rfl) ?_
        repeat (gi_big_quiet_step (fail))
        refine wpQuietIn_nil ?_
        intro _ hw'
        obtain ⟨nq, rfl⟩ := hw'
        gi_wp2_with fail
        exact ⟨kf_set _ _ _ _ _, .inl ⟨rfl, HPX.out⟩⟩
    · have hdk : decide (L.length ≤ pre.length) = true := by simp; omega
      have HPX : Hid (¬ pre ++ [x] <+: P) := none_next HLP.out hk
      clear hk
      gi_wp2_with fail
      refine round_quiet (by kernel_rfl) (by kernel_rfl) (by kernel_rfl) ?_
      repeat (gi_big_quiet_step (fail))
      refine wpQuietIn_nil ?_
      intro _ hw'
      obtain ⟨nq, rfl⟩ := hw'
      gi_wp2_with fail
      exact ⟨kf_set _ _ _ _ _, .inl ⟨rfl, HPX.out⟩⟩
  case done =>
    rintro D xs W hD rfl hI hKD
    exact hRest D _ W hD (.inl rfl) hI hKD
  case stop =>
    rintro D cc pre W hD hpre hX hKD
    rcases hX with ⟨rfl, h⟩ | ⟨rfl, h1, h2⟩
    · exact absurd hpre h
    · gi_wp2_with fail
      exact hRest D pre W hD (.inr ⟨h1, hpre⟩) h2 hKD
end Go.Proofs.Ytbloccjogadlmaa.W
