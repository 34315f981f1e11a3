/- Lists that were handed out: words written into them, lists grown of them (FrameKeeps). -/
import Derived.Test.YtgihlldkdbjkkaaFj
import Derived.Test.YtgihlldkdbjkkaaFtw
import Derived.Test.YtgihlldkdbjkkaaGPx2
import Derived.Test.YtgihlldkdbjkkaaGPx1
import Derived.ArgAppend
import Derived.Deep.AppendLies
namespace Go.Proofs.Ytgihlldkdbjkkaa.W
open Go.RowKit Go.Proofs.YtgihlldkdbjkkaaW.PrintWords Go.Proofs.YtgihlldkdbjkkaaW.PrintLast Go.Proofs.Ytgihlldkdbjkkaa.GP
set_option linter.unusedVariables false
set_option linter.unusedSimpArgs false

theorem infoStr : (Try.prog.info? 9).map (fun i => (i.zero, i.size, i.bytes)) = some (some (.string ⟨#[]⟩), 1, 16) := by kernel_rfl

/-! A block of texts that begins with these. -/
def Str (w : World) (b c : Nat) (l : List ByteArray) : Prop := ∃ cs : Array Value, At w b 9 cs ∧ cs.size = c ∧ l.length ≤ c ∧ c ≤ maxLen ∧ ∀ (j : Nat) (s : ByteArray), l[j]? = some s → cs[j]? = some (.string s)
section
variable {w w' : World} {b c : Nat} {l : List ByteArray}
theorem Str.lt (h : Str w b c l) : b < w.heap.size := by obtain ⟨cs, h, _⟩ := h; exact h.lt
theorem Str.le (h : Str w b c l) : l.length ≤ c ∧ c ≤ maxLen := by obtain ⟨cs, _, _, h1, h2, _⟩ := h; exact ⟨h1, h2⟩
theorem Str.same (h : Str w b c l) (hb : w'.heap[b]? = w.heap[b]?) : Str w' b c l := by
  obtain ⟨cs, h, r⟩ := h
  exact ⟨cs, hb.trans h, r⟩
theorem Str.below (h : Str w b c l) (hb : Below w.heap.size w w') : Str w' b c l := h.same (hb.block b h.lt)
theorem Str.kept {k : Nat} (h : Str w b c l) (hg : w.grownBy w' (some k)) (hne : b ≠ k) : Str w' b c l := h.same (hg.block b h.lt (fun e => hne (by injection e)))
theorem Str.far (h : Str w b c l) {p : Addr} (hp : b ≠ p.block) (u : Value) : Str (w.setCell p u) b c l := h.same (Below.heap_setCell w p u b hp)
theorem Str.alloc (h : Str w b c l) (o : Obj) : Str (w.alloc o) b c l := h.same (Below.heap_alloc w o b h.lt)
theorem Str.set (h : Str w b c l) (i : Nat) (s : ByteArray) : Str (w.setCell ⟨b, i, none⟩ (.string s)) b c (l.set i s) := by
  obtain ⟨cs, h, hz, h1, h2, h3⟩ := h
  refine ⟨_, h.set i _, by simp [hz], by simpa using h1, h2, fun j t hj => ?_⟩
  rw [List.getElem?_set] at hj
  rw [Array.getElem?_setIfInBounds]
  by_cases e : i = j
  · subst e
    rw [if_pos rfl] at hj ⊢
    by_cases hi : i < l.length
    · rw [if_pos hi] at hj
      injection hj with hj
      rw [if_pos (by omega), hj]
    · rw [if_neg hi] at hj; cases hj
  · rw [if_neg e] at hj ⊢
    exact h3 j t hj
theorem Str.cell (h : Str w b c l) (j : Nat) (s : ByteArray) (hj : l[j]? = some s) : w.cell? ⟨b, j, none⟩ = some (.string s) := by
  obtain ⟨cs, h, _, _, _, h3⟩ := h
  exact (h.cell j).trans (h3 j s hj)
theorem Str.free (h : Str w b c l) (j : Nat) : w.frozen? ⟨b, j, none⟩ = false := by
  obtain ⟨cs, h, _⟩ := h
  exact h.free j
theorem Str.C (h : Str w b c l) : Kd.C Kd.string w (some ⟨b, 0, none⟩) l.length l := by
  have h63 : l.length ≤ 9223372036854775807 := by have := h.le; simp only [maxLen] at this; omega
  refine ⟨rfl, h63, fun _ => ⟨_, rfl, fun j p hj => ⟨[.string p], rfl, rfl, fun i u hu => ?_⟩⟩⟩
  match i, hu with
  | 0, hu =>
    injection hu with hu
    subst hu
    have e : (j * Kd.string.sz + 0) = j := by show j * 1 + 0 = j; omega
    rw [e, add_plain]
    exact h.cell j p hj
theorem Str.of_own {base n : Nat} {v : Value} (h : w.ownsRow base 9 1 v n (l.map Value.string)) (hn : 0 < l.length) : ∃ b c, v = .slice (some ⟨b, 0, none⟩) l.length c ∧ base ≤ b ∧ Str w b c l := by
  obtain ⟨hl, h | ⟨g, cap, cur, hv, hb, hg, hnc, hcm, hcz, ht⟩⟩ := h
  · rw [List.length_map] at hl; omega
  · have hl1 : l.length = n := by rw [List.length_map] at hl; omega
    subst hl1
    refine ⟨g, cap, hv, hb, cur, hg, by omega, hnc, hcm, fun j s hj => ?_⟩
    have hj0 : j < l.length := by
      rcases Nat.lt_or_ge j l.length with h | h
      · exact h
      · rw [List.getElem?_eq_none h] at hj; cases hj
    have : (cur.toList.take (l.length * 1))[j]? = some (.string s) := by rw [ht, List.getElem?_map, hj]; rfl
    rw [List.getElem?_take, if_pos (by omega)] at this
    simpa using this
theorem Str.of_R {base : Nat} {ok : Nat → Prop} {v : Value} (h : Kd.R Kd.string 9 w base ok v l) (hn : 0 < l.length) : ∃ b c, v = .slice (some ⟨b, 0, none⟩) l.length c ∧ base ≤ b ∧ Str w b c l := Str.of_own (Kd.own_of_R h) hn
end

/-- A TEXT MORE, behind a list that was handed out: written into the room that is there, or into a new block. -/
theorem wpList_append_mark {ops : Array Oper} {rest : List Oper} {o : Oper} {a : Act} {w : World} {Q : Exit → Act → World → Prop} (hgd : o.guard = none) (s x : Operand)
    (ho : o.op = .call { callee := .builtin .append, args := #[s, x], argTypes := #[29, 29] }) (b c : Nat) (l : List ByteArray) (hl : l.length ≤ 1000) (z : ByteArray)
    (hs : a.eval s = .slice (some ⟨b, 0, none⟩) l.length c) (hS : Str w b c l) (H cx : Nat) (hx : a.eval x = .slice (some ⟨H, 0, none⟩) 1 cx) (hH : At w H 9 #[.string z]) (hb : b ≠ H)
    (hK : ∀ g e w', Str w' b c l → Str w' g e (l ++ [z]) → w.grownBy w' (some b) → (g = b ∨ w.heap.size ≤ g) → wpList Try.prog ops Q rest (a.put o.dst (.slice (some ⟨g, 0, none⟩) (l.length + 1) e)) w') :
    wpList Try.prog ops Q (o :: rest) a w := by
  obtain ⟨i, hi, hz⟩ := Option.map_eq_some_iff.1 infoStr
  have hz0 : i.zero = some (.string ⟨#[]⟩) := by injection hz
  have hz1 : i.size = 1 := by injection hz with _ h; injection h
  have hz2 : i.bytes = 16 := by injection hz with _ h; injection h
  have hle := hS.le
  have hm : maxLen = 9223372036854775807 := rfl
  refine wpList_append_arg w hgd s x 29 ho 9 i (.string ⟨#[]⟩) 1 16 Try.underlying29 hi hz0 hz1 hz2 rfl (by decide) b 0 l.length c (l.map Value.string) hs (by simp) (fun j u hu => ?_) ⟨H, 0, none⟩ 1 cx [.string z] hx rfl
    (by exact World.news_of_block hH) (by simp [Value.oneCell']) (fun hr j hj => ?_) (by omega) (by omega) (fun hr => ?_) (fun hr v' w' hown hgr => ?_)
  · rw [List.getElem?_map] at hu
    cases hlj : l[j]? with
    | none => rw [hlj] at hu; cases hu
    | some t =>
      rw [hlj] at hu
      injection hu with hu
      rw [Nat.zero_add, ← hu]
      exact hS.cell j t hlj
  · obtain ⟨cs, hA, hcz, _⟩ := hS
    have hj0 : j = 0 := by simpa using hj
    subst hj0
    refine ⟨?_, hA.free _⟩
    rw [hA.cell, Array.getElem?_eq_getElem (by omega)]
    rfl
  · have e : w.setCells b (0 + l.length * 1) [.string z] = w.setCell ⟨b, l.length, none⟩ (.string z) := by
      rw [Nat.zero_add, Nat.mul_one]; rfl
    rw [e]
    have hS2 : Str (w.setCell ⟨b, l.length, none⟩ (.string z)) b c (l ++ [z]) := by
      obtain ⟨cs, hA, hcz, h1, h2, h3⟩ := hS
      refine ⟨_, hA.set l.length _, by simp [hcz], by simpa using hr, h2, fun j t hj => ?_⟩
      rw [Array.getElem?_setIfInBounds]
      by_cases e : l.length = j
      · subst e
        rw [List.getElem?_append_right (Nat.le_refl _), Nat.sub_self] at hj
        injection hj with hj
        rw [if_pos rfl, if_pos (by omega), hj]
      · rw [if_neg e]
        have hj0 : j < (l ++ [z]).length := by
          rcases Nat.lt_or_ge j (l ++ [z]).length with h | h
          · exact h
          · rw [List.getElem?_eq_none h] at hj; cases hj
        rw [List.length_append, List.length_singleton] at hj0
        rw [List.getElem?_append_left (by omega)] at hj
        exact h3 j t hj
    refine hK b c _ ?_ hS2 ⟨rfl, rfl, rfl, by simp [World.setCell], fun k hk hne => ?_⟩ (.inl rfl)
    · obtain ⟨cs, hA, hcz, h1, h2, h3⟩ := hS2
      exact ⟨cs, hA, hcz, by omega, h2, fun j t hj => h3 j t (by
        have hj0 : j < l.length := by
          rcases Nat.lt_or_ge j l.length with h | h
          · exact h
          · rw [List.getElem?_eq_none h] at hj; cases hj
        rw [List.getElem?_append_left hj0]; exact hj)⟩
    · exact Below.heap_setCell w _ _ k (fun e => hne (by rw [e]))
  · have e : l.map Value.string ++ [.string z] = (l ++ [z]).map Value.string := by simp
    rw [e] at hown
    obtain ⟨g, e2, hv, hbg, hS2⟩ := Str.of_own hown (by simp)
    subst hv
    rw [List.length_append, List.length_singleton]
    refine hK g e2 w' (hS.same (hgr.block b hS.lt (by simp))) hS2 ⟨hgr.os, hgr.tape, hgr.output, hgr.size, fun k hk _ => hgr.block k hk (by simp)⟩ (.inr hbg)

/-! Marks. -/
structure MkT where
  b : Nat
  c : Nat
  g : Nat
  e : Nat
  word : ByteArray
def MkT.cells (m : MkT) : List Value := [.slice (some ⟨m.b, 0, none⟩) 2 m.c, .slice (some ⟨m.g, 0, none⟩) 3 m.e, .string m.word]
structure MkOk (w : World) (B : Nat) (m : MkT) : Prop where
  l : Str w m.b m.c [m.word, m.word ++ ⟨#[120]⟩]
  g : Str w m.g m.e [m.word, m.word ++ ⟨#[120]⟩, m.word ++ ⟨#[121]⟩]
  hb : B ≤ m.b
  hg : B ≤ m.g
  hw : m.word.size ≤ 100
theorem MkOk.same {w w' : World} {B : Nat} {m : MkT} (h : MkOk w B m) (h1 : w'.heap[m.b]? = w.heap[m.b]?) (h2 : w'.heap[m.g]? = w.heap[m.g]?) : MkOk w' B m := ⟨h.l.same h1, h.g.same h2, h.hb, h.hg, h.hw⟩
theorem whole_any {w : World} {B : Nat} {m : MkT} (h : MkOk w B m) : Calls Try.prog 9 #[.agg #[.slice (some ⟨m.b, 0, none⟩) 2 m.c, .slice (some ⟨m.g, 0, none⟩) 3 m.e, .string m.word]] w fun en w' => en = .returned (.bool true) ∧ Below w.heap.size w w' := by
  refine rosterlaw03_Mark_whole.calls _ m.c [m.word, m.word ++ ⟨#[120]⟩] _ m.e [m.word, m.word ++ ⟨#[120]⟩, m.word ++ ⟨#[121]⟩] m.word true w h.l.C h.l.le.1 h.g.C h.g.le.1 ?_
  have hw := h.hw
  unfold rosterlaw03_Mark_whole.f
  simp [rdOf]
  omega
theorem own_same {w w' : World} {base size n : Nat} {e : TypeId} {v : Value} {xs : List Value} (h : w.ownsRow base e size v n xs) (hb : ∀ q, v.ownBlock = some q → w'.heap[q]? = w.heap[q]?) : w'.ownsRow base e size v n xs := by
  obtain ⟨hl, h | ⟨g, cap, cur, hv, h1, hg, r⟩⟩ := h
  · exact ⟨hl, .inl h⟩
  · exact ⟨hl, .inr ⟨g, cap, cur, hv, h1, (hb g (by rw [hv]; rfl)).trans hg, r⟩⟩
theorem own_typed {w : World} {base size n : Nat} {e : TypeId} {v : Value} {xs : List Value} (h : w.ownsRow base e size v n xs) {q : Nat} (hq : v.ownBlock = some q) : base ≤ q ∧ ∃ cs, At w q e cs := by
  obtain ⟨hl, h | ⟨g, cap, cur, hv, h1, hg, r⟩⟩ := h
  · rw [h.1] at hq; cases hq
  · rw [hv] at hq
    injection hq with hq
    subst hq
    exact ⟨h1, cur, hg⟩
theorem FrAt.same {w w' : World} {B g : Nat} {v : Value} {limit given err : Int} {H : ByteArray} (h : FrAt w B g v limit H given err) (h1 : w'.heap[g]? = w.heap[g]?) (h2 : ∀ q, v.ownBlock = some q → w'.heap[q]? = w.heap[q]?) : FrAt w' B g v limit H given err :=
  ⟨h1.trans h.mem, by
    have hrow : Kd.R (Kd.int .u8) 5 w B (fun q => v.ownBlock = some q) v (numsOf H) := Kd.R_of_own (Kd.own_of_R h.row) (fun q hq => hq)
    exact Kd.R_mono (Kd.R_move hrow (fun q hq => h2 q hq)) (fun _ _ => trivial)⟩
/-- ALL THAT THE LAW HOLDS: two framers, the list of marks, each mark whole. -/
structure Al (w0 w : World) (gf gg : Nat) (vf vg : Value) (pf pg : ByteArray) (vk : Value) (ms : List MkT) : Prop where
  f : FrSt w w0.heap.size gf vf 1048576 pf
  g : FrSt w w0.heap.size gg vg 1048576 pg
  ne : gf ≠ gg
  d : ∀ q, vf.ownBlock = some q → vg.ownBlock ≠ some q
  bf : w0.heap.size ≤ gf
  bg : w0.heap.size ≤ gg
  k : w.ownsRow w0.heap.size 37 3 vk ms.length (ms.flatMap MkT.cells)
  m : ∀ x ∈ ms, MkOk w w0.heap.size x
  b : Below w0.heap.size w0 w
section
variable {w0 w w' : World} {gf gg : Nat} {vf vg vk : Value} {pf pg : ByteArray} {ms : List MkT}
theorem Al.below (h : Al w0 w gf gg vf vg pf pg vk ms) (hb : Below w.heap.size w w') : Al w0 w' gf gg vf vg pf pg vk ms :=
  ⟨h.f.at hb, h.g.at hb, h.ne, h.d, h.bf, h.bg, own_same h.k (fun q hq => by obtain ⟨_, _, ha⟩ := own_typed h.k hq; exact hb.block q ha.lt), fun x hx => (h.m x hx).same (hb.block _ (h.m x hx).l.lt) (hb.block _ (h.m x hx).g.lt), h.b.trans (hb.mono h.b.size)⟩
def Fresh (ms : List MkT) (b : Nat) : Prop := ∀ x ∈ ms, x.b ≠ b ∧ x.g ≠ b
theorem Al.fresh (h : Al w0 w gf gg vf vg pf pg vk ms) {b : Nat} (hb : w.heap.size ≤ b) : Fresh ms b := fun x hx => by
  have h1 := (h.m x hx).l.lt
  have h2 := (h.m x hx).g.lt
  exact ⟨by omega, by omega⟩
/-- A block of texts that is no mark's is written. -/
theorem Al.str (h : Al w0 w gf gg vf vg pf pg vk ms) {b c : Nat} {l : List ByteArray} (hS : Str w b c l) (hf : Fresh ms b) (hB : w0.heap.size ≤ b) (hg : w.grownBy w' (some b)) : Al w0 w' gf gg vf vg pf pg vk ms := by
  obtain ⟨cs, hA, _⟩ := hS
  have key : ∀ {k : Nat} {t : TypeId} {ds : Array Value}, At w k t ds → t ≠ 9 → w'.heap[k]? = w.heap[k]? := fun ha ht => hg.block _ ha.lt (fun e => ha.ne hA ht (by injection e))
  refine ⟨FrAt.same h.f (key h.f.mem (by decide)) (fun q hq => ?_), FrAt.same h.g (key h.g.mem (by decide)) (fun q hq => ?_), h.ne, h.d, h.bf, h.bg, own_same h.k (fun q hq => ?_), fun x hx => ?_, below_kept h.b hg h.b.size hB⟩
  · obtain ⟨_, _, cells, hc⟩ := held_typed h.f.row hq
    exact key (show At w q 5 cells from hc) (by decide)
  · obtain ⟨_, _, cells, hc⟩ := held_typed h.g.row hq
    exact key (show At w q 5 cells from hc) (by decide)
  · obtain ⟨_, _, ha⟩ := own_typed h.k hq
    exact key ha (by decide)
  · have h1 := h.m x hx
    exact h1.same (hg.block _ h1.l.lt (fun e => (hf x hx).1 (by injection e))) (hg.block _ h1.g.lt (fun e => (hf x hx).2 (by injection e)))
theorem set_grown (w : World) (b j : Nat) (u : Value) : w.grownBy (w.setCell ⟨b, j, none⟩ u) (some b) := ⟨rfl, rfl, rfl, by simp [World.setCell], fun k hk hne => Below.heap_setCell w _ _ k (fun e => hne (by rw [e]))⟩
/-- Marks more. -/
theorem Al.more (h : Al w0 w gf gg vf vg pf pg vk ms) {v : Value} {ns : List MkT} (hg : w.grownBy w' vk.ownBlock) (ho : w'.ownsRow w0.heap.size 37 3 v (ms.length + ns.length) (ms.flatMap MkT.cells ++ ns.flatMap MkT.cells)) (hn : ∀ x ∈ ns, MkOk w w0.heap.size x) :
    Al w0 w' gf gg vf vg pf pg v (ms ++ ns) := by
  have key : ∀ {k : Nat} {t : TypeId} {ds : Array Value}, At w k t ds → t ≠ 37 → w'.heap[k]? = w.heap[k]? := fun ha ht => hg.block _ ha.lt (fun e => by
    obtain ⟨_, _, hk⟩ := own_typed h.k e.symm
    exact ha.ne hk ht rfl)
  have km : ∀ x, MkOk w w0.heap.size x → MkOk w' w0.heap.size x := fun x h1 => h1.same (by obtain ⟨_, ha, _⟩ := h1.l; exact key ha (by decide)) (by obtain ⟨_, ha, _⟩ := h1.g; exact key ha (by decide))
  refine ⟨FrAt.same h.f (key h.f.mem (by decide)) (fun q hq => ?_), FrAt.same h.g (key h.g.mem (by decide)) (fun q hq => ?_), h.ne, h.d, h.bf, h.bg, by rw [List.length_append, List.flatMap_append]; exact ho, fun x hx => ?_, ?_⟩
  · obtain ⟨_, _, cells, hc⟩ := held_typed h.f.row hq
    exact key (show At w q 5 cells from hc) (by decide)
  · obtain ⟨_, _, cells, hc⟩ := held_typed h.g.row hq
    exact key (show At w q 5 cells from hc) (by decide)
  · rcases List.mem_append.1 hx with h1 | h1
    · exact km x (h.m x h1)
    · exact km x (hn x h1)
  · refine ⟨hg.os.trans h.b.os, hg.tape.trans h.b.tape, hg.output.trans h.b.output, Nat.le_trans h.b.size hg.size, fun i hi => ?_⟩
    refine (hg.block i (Nat.lt_of_lt_of_le hi h.b.size) (fun e => ?_)).trans (h.b.block i hi)
    have := (own_typed h.k e.symm).1
    omega
/-- The first framer is fed. -/
theorem Al.fed (h : Al w0 w gf gg vf vg pf pg vk ms) {v : Value} {p : ByteArray} (k : Two w w' gf vf.ownBlock) (hF : FrSt w' w0.heap.size gf v 1048576 p) (ho : v.ownBlock = none ∨ v.ownBlock = vf.ownBlock ∨ ∃ b, v.ownBlock = some b ∧ w.heap.size ≤ b) : Al w0 w' gf gg v vg p pg vk ms := by
  have key : ∀ {j : Nat} {t : TypeId} {ds : Array Value}, At w j t ds → t ≠ 44 → t ≠ 5 → w'.heap[j]? = w.heap[j]? := fun ha h1 h2 => (k.keep h.f ha h1 h2).trans ha.symm
  refine ⟨hF, FrAt.same h.g (k.block gg h.g.mem.lt (Ne.symm h.ne) (fun e => ?_)) (fun q hq => ?_), h.ne, fun q hq e => ?_, h.bf, h.bg, own_same h.k (fun q hq => ?_), fun x hx => ?_, k.base h.f h.b h.b.size h.bf (Nat.le_refl _)⟩
  · obtain ⟨_, _, cells, hc⟩ := held_typed h.f.row e.symm
    exact At.typed h.g.mem hc (by decide) rfl
  · obtain ⟨_, hl, cells, hc⟩ := held_typed h.g.row hq
    exact k.block q hl (fun e => by subst e; exact At.typed h.f.mem hc (by decide) rfl) (fun e => h.d q e.symm hq)
  · rcases ho with h1 | h1 | ⟨b, h1, h2⟩
    · rw [h1] at hq; cases hq
    · exact h.d q (by rw [← h1]; exact hq) e
    · have := (held_typed h.g.row e).2.1
      rw [h1] at hq
      injection hq with hq
      omega
  · obtain ⟨_, _, ha⟩ := own_typed h.k hq
    exact key ha (by decide) (by decide)
  · have h1 := h.m x hx
    exact h1.same (by obtain ⟨_, ha, _⟩ := h1.l; exact key ha (by decide) (by decide)) (by obtain ⟨_, ha, _⟩ := h1.g; exact key ha (by decide) (by decide))
theorem Al.swap (h : Al w0 w gf gg vf vg pf pg vk ms) : Al w0 w gg gf vg vf pg pf vk ms := ⟨h.g, h.f, Ne.symm h.ne, fun q h1 h2 => h.d q h2 h1, h.bg, h.bf, h.k, h.m, h.b⟩
end
/-- What stays of a list when a framer is fed. -/
theorem Str.fed {w w' : World} {B g b c : Nat} {l : List ByteArray} {v : Value} {limit : Int} {p : ByteArray} (h : Str w b c l) (k : Two w w' g v.ownBlock) (hF : FrSt w B g v limit p) : Str w' b c l := by
  obtain ⟨cs, ha, r⟩ := h
  exact ⟨cs, k.keep hF ha (by decide) (by decide), r⟩
/-- The cells of a mark in the list. -/
theorem mark_cells {w : World} {B : Nat} {v : Value} {ms : List MkT} (h : w.ownsRow B 37 3 v ms.length (ms.flatMap MkT.cells)) {i : Nat} (hi : i < ms.length) : ∃ g c, v = .slice (some ⟨g, 0, none⟩) ms.length c ∧
    w.cell? ⟨g, i * 3, none⟩ = some (.slice (some ⟨ms[i].b, 0, none⟩) 2 ms[i].c) ∧ w.cell? ⟨g, i * 3 + 1, none⟩ = some (.slice (some ⟨ms[i].g, 0, none⟩) 3 ms[i].e) ∧ w.cell? ⟨g, i * 3 + 2, none⟩ = some (.string ms[i].word) := by
  obtain ⟨hl, h | ⟨g, cap, cur, hv, h1, hg, hnc, hcm, hcz, ht⟩⟩ := h
  · omega
  · have hA : At w g 37 cur := hg
    have row : ∀ (l : List MkT) (i : Nat) (hi : i < l.length) (j : Nat), j < 3 → (l.flatMap MkT.cells)[i * 3 + j]? = (l[i]).cells[j]? := by
      intro l
      induction l with
      | nil => intro i hi; exact absurd hi (by simp)
      | cons x l ih =>
        intro i hi j hj
        have hx : x.cells.length = 3 := rfl
        rw [List.flatMap_cons]
        cases i with
        | zero => rw [List.getElem?_append_left (by omega)]; simp
        | succ i =>
          rw [List.getElem?_append_right (by omega)]
          have e : (i + 1) * 3 + j - x.cells.length = i * 3 + j := by omega
          rw [e, ih i (by simpa using hi) j hj]
          rfl
    have get : ∀ j, j < 3 → w.cell? ⟨g, i * 3 + j, none⟩ = (ms[i]).cells[j]? := by
      intro j hj
      rw [hA.cell, ← row ms i hi j hj, ← ht, List.getElem?_take, if_pos (by omega)]
      simp
    exact ⟨g, cap, hv, get 0 (by omega), get 1 (by omega), get 2 (by omega)⟩
theorem infoMark : (Try.prog.info? 37).map (fun i => (i.zero, i.size, i.bytes)) = some (some (.agg #[.slice none 0 0, .slice none 0 0, .string ⟨#[]⟩]), 3, 64) := by kernel_rfl
theorem MkOk.alloc {w : World} {B : Nat} {m : MkT} (h : MkOk w B m) (o : Obj) : MkOk (w.alloc o) B m := ⟨h.l.alloc o, h.g.alloc o, h.hb, h.hg, h.hw⟩
theorem mk_ok {w : World} {B b c g e : Nat} {p q r : ByteArray} (h1 : q = p ++ ⟨#[120]⟩) (h2 : r = p ++ ⟨#[121]⟩) (hl : Str w b c [p, q]) (hg : Str w g e [p, q, r]) (hb : B ≤ b) (hgb : B ≤ g) (hw : p.size ≤ 100) : MkOk w B ⟨b, c, g, e, p⟩ := by
  subst h1 h2
  exact ⟨hl, hg, hb, hgb, hw⟩
theorem cell_all (m : MkT) : ∀ u ∈ m.cells, u.oneCell' = true := by
  intro u hu
  unfold MkT.cells at hu
  simp only [List.mem_cons, List.mem_nil_iff, or_false] at hu
  rcases hu with rfl | rfl | rfl <;> rfl
theorem row_len (l : List MkT) : (l.flatMap MkT.cells).length = l.length * 3 := by
  induction l with
  | nil => rfl
  | cons x l ih => rw [List.flatMap_cons, List.length_append, ih, List.length_cons]; show 3 + _ = _; omega
/-- MARKS MORE, behind the list of marks. -/
theorem wpList_append_kept {ops : Array Oper} {rest : List Oper} {o : Oper} {a : Act} {w0 W : World} {Q : Exit → Act → World → Prop} {gf gg : Nat} {vf vg vk : Value} {pf pg : ByteArray} {ms : List MkT} (hgd : o.guard = none) (s x : Operand)
    (ho : o.op = .call { callee := .builtin .append, args := #[s, x], argTypes := #[25, 25] }) (hA : Al w0 W gf gg vf vg pf pg vk ms) (ns : List MkT) (n : Nat) (hnl : ns.length = n) (hn : 0 < n) (hlen : ms.length + n ≤ 2000000)
    (hs : a.eval s = vk) (H cx : Nat) (hx : a.eval x = .slice (some ⟨H, 0, none⟩) n cx) (hH : At W H 37 (ns.flatMap MkT.cells).toArray) (hN : ∀ x ∈ ns, MkOk W w0.heap.size x)
    (hK : ∀ g c w', Al w0 w' gf gg vf vg pf pg (.slice (some ⟨g, 0, none⟩) (ms.length + n) c) (ms ++ ns) → W.grownBy w' vk.ownBlock → wpList Try.prog ops Q rest (a.put o.dst (.slice (some ⟨g, 0, none⟩) (ms.length + n) c)) w') :
    wpList Try.prog ops Q (o :: rest) a W := by
  obtain ⟨i, hi, hz⟩ := Option.map_eq_some_iff.1 infoMark
  have hz0 : i.zero = some (.agg #[.slice none 0 0, .slice none 0 0, .string ⟨#[]⟩]) := by injection hz
  have hz1 : i.size = 3 := by injection hz with _ h; injection h
  have hz2 : i.bytes = 64 := by injection hz with _ h; injection h
  have hm : maxLen = 9223372036854775807 := rfl
  refine wpList_append_lies W hgd s x 25 ho w0.heap.size 37 i _ 3 64 Try.underlying25 hi hz0 hz1 hz2 rfl (by decide) vk ms.length (ms.flatMap MkT.cells) hs hA.k ⟨H, 0, none⟩ n cx (ns.flatMap MkT.cells) hx (by rw [row_len, hnl])
    (by have := World.news_of_block hH; simpa using this) (fun u hu => ?_) hn (by omega) (by omega) hA.b.size _ rfl (fun g c w' hown hg hat hlt => ?_)
  · obtain ⟨m, _, hm⟩ := List.mem_flatMap.1 hu
    exact cell_all m u hm
  · exact hK g c w' (hA.more hg (by rw [hnl]; exact hown) hN) hg
end Go.Proofs.Ytgihlldkdbjkkaa.W
