/- Walk of the statement FramePlays: it comes to true. -/
import Derived.Test.YtcjlpedpiljnmaaStq
namespace Go.Proofs.Ytcjlpedpiljnmaa.W
open Go.RowKit Go.Proofs.YtcjlpedpiljnmaaW.PrintWords Go.Proofs.YtcjlpedpiljnmaaW.PrintLast
set_option linter.unusedVariables false
set_option linter.unusedSimpArgs false

theorem step_any (w : World) (B g gr : Nat) (v : Value) (limit kind : Int) (pre chunk : ByteArray) (h : Both w B g gr v limit pre) (hB : B ≤ w.heap.size) (hs : pre.size + chunk.size ≤ 16777216) :
    Calls Try.prog 25 #[.pointer (some ⟨g, 0, none⟩), .pointer (some ⟨gr, 0, none⟩), .agg #[.int .i64 kind, .string chunk]] w (StepEnd w B g gr v limit pre chunk) := by
  by_cases h1 : kind = 1
  · subst h1; exact step_feed w B g gr v limit pre chunk h hB hs
  by_cases h2 : kind = 2
  · subst h2; exact step_held w B g gr v limit pre chunk h (by omega)
  by_cases h3 : kind = 3
  · subst h3; exact step_need w B g gr v limit pre chunk h (by omega)
  by_cases h4 : kind = 4
  · subst h4; exact step_fault w B g gr v limit pre chunk h (by omega)
  exact step_other w B g gr v limit kind pre chunk h h1 h2 h3 h4
theorem own_lt_of {w : World} {B g gr : Nat} {v : Value} {limit : Int} {pre : ByteArray} (h : Both w B g gr v limit pre) {q : Nat} (hq : v.ownBlock = some q) : B ≤ q ∧ q < w.heap.size := by
  have := held_typed h.fr.row hq
  exact ⟨this.1, this.2.1⟩
/-- The other pair is as it was. -/
theorem Both.kept {w w' : World} {B g1 r1 g2 r2 : Nat} {v1 v2 : Value} {l1 l2 : Int} {p1 p2 : ByteArray} (k : Tri w w' g1 r1 v1.ownBlock) (h1 : Both w B g1 r1 v1 l1 p1) (h2 : Both w B g2 r2 v2 l2 p2) (hg : g2 ≠ g1) (hr : r2 ≠ r1)
    (hd : ∀ q, v1.ownBlock = some q → v2.ownBlock ≠ some q) : Both w' B g2 r2 v2 l2 p2 := by
  have e1 : ∀ {b t cs}, At w b t cs → t ≠ 5 → some b ≠ v1.ownBlock := by
    intro b t cs hb ht e
    obtain ⟨_, _, cells, hc⟩ := held_typed h1.fr.row e.symm
    exact hb.typed hc ht rfl
  refine ⟨⟨(k.block g2 h2.fr.mem.lt hg (h2.fr.mem.ne h1.rf (by decide)) (e1 h2.fr.mem (by decide))).trans h2.fr.mem, ?_⟩, (k.block r2 h2.rf.lt (At.ne h2.rf h1.fr.mem (by decide)) hr (e1 h2.rf (by decide))).trans h2.rf⟩
  have hrow : Kd.R (Kd.int .u8) 5 w B (fun q => v2.ownBlock = some q) v2 (numsOf (keptS p2 (cutAt l2 p2 0))) := Kd.R_of_own (Kd.own_of_R h2.fr.row) (fun q hq => hq)
  refine Kd.R_mono (Kd.R_move hrow (fun q hq => ?_)) (fun _ _ => trivial)
  obtain ⟨_, hl, cells, hc⟩ := held_typed h2.fr.row hq
  refine k.block q hl (fun e => ?_) (fun e => ?_) (fun e => hd q e.symm hq)
  · subst e; exact At.typed h1.fr.mem hc (by decide) rfl
  · subst e; exact At.typed h1.rf hc (by decide) rfl
theorem Tri.base {w w' w0 : World} {B0 g gr : Nat} {v : Value} {B : Nat} {limit : Int} {pre : ByteArray} (k : Tri w w' g gr v.ownBlock) (hF : Both w B g gr v limit pre) (h : Below B0 w0 w) (hB : B0 ≤ w.heap.size) (hg : B0 ≤ g) (hgr : B0 ≤ gr) (hb : B0 ≤ B) : Below B0 w0 w' :=
  ⟨k.os.trans h.os, k.tape.trans h.tape, k.output.trans h.output, Nat.le_trans h.size k.size, fun i hi => (k.block i (Nat.lt_of_lt_of_le hi hB) (by omega) (by omega) (fun e => by have := (own_lt_of hF e.symm).1; omega)).trans (h.block i hi)⟩
theorem Tri.at {w w' : World} {B g gr b : Nat} {t : TypeId} {cs : Array Value} {v : Value} {limit : Int} {pre : ByteArray} (k : Tri w w' g gr v.ownBlock) (hF : Both w B g gr v limit pre) (h : At w b t cs) (h1 : t ≠ 104) (h2 : t ≠ 5) (h3 : t ≠ 106) : At w' b t cs := by
  refine (k.block b h.lt (h.ne hF.fr.mem h1) (h.ne hF.rf h3) (fun e => ?_)).trans h
  obtain ⟨_, _, cells, hc⟩ := held_typed hF.fr.row e.symm
  exact h.typed hc h2 rfl
def kOp : Kd (Int × ByteArray) := Kd.pair (Kd.int .i64) Kd.string
theorem op_at {w : World} {A : Option Addr} {n : Nat} {xs : List (Int × ByteArray)} (h : Kd.C kOp w A n xs) (i : Nat) (hi : i < n) : ∃ ad, A = some ad ∧ w.cell? (ad.add (i * 2)) = some (.int .i64 (xs.getD i (0, ⟨#[]⟩)).1) ∧
    w.cell? ⟨(ad.add (i * 2)).block, (ad.add (i * 2)).off + 1, none⟩ = some (.string (xs.getD i (0, ⟨#[]⟩)).2) := by
  obtain ⟨ad, c, e, _, hK, hc0⟩ := Kd.C_get h (0, ⟨#[]⟩) (i : Int) (by omega) (by omega)
  have hc : ∀ j u, c[j]? = some u → w.cell? (ad.add (i * 2 + j)) = some u := hc0
  obtain ⟨_, _, rfl, rfl, rfl⟩ := hK
  exact ⟨ad, e, hc 0 _ rfl, by rw [← add_field _ _ 1 (by omega)]; exact hc 1 _ rfl⟩
def tot (l : List (Int × ByteArray)) (i : Nat) : Nat := ((l.take i).map fun x => x.2.size).sum
theorem tot_succ (l : List (Int × ByteArray)) (i : Nat) (h : i < l.length) : tot l (i + 1) = tot l i + (l.getD i (0, ⟨#[]⟩)).2.size := by
  unfold tot
  rw [List.take_succ_eq_append_getElem h, List.map_append, List.sum_append, List.getD_eq_getElem?_getD, List.getElem?_eq_getElem h]
  simp
theorem tot_le (l : List (Int × ByteArray)) (i : Nat) : tot l i ≤ tot l l.length := by
  have e : l = l.take i ++ l.drop i := (List.take_append_drop i l).symm
  have h : tot l l.length = ((l.take i ++ l.drop i).map fun x => x.2.size).sum := by unfold tot; rw [List.take_length, ← e]
  rw [h, List.map_append, List.sum_append]
  unfold tot
  omega
/-- Two pairs side by side. -/
structure Duo (w : World) (B g1 r1 g2 r2 : Nat) (l1 l2 : Int) (v1 v2 : Value) (p1 p2 : ByteArray) : Prop where
  a : Both w B g1 r1 v1 l1 p1
  b : Both w B g2 r2 v2 l2 p2
  d : ∀ q, v1.ownBlock = some q → v2.ownBlock ≠ some q
theorem Duo.below {w w' : World} {B g1 r1 g2 r2 : Nat} {l1 l2 : Int} {v1 v2 : Value} {p1 p2 : ByteArray} (h : Duo w B g1 r1 g2 r2 l1 l2 v1 v2 p1 p2) (hb : Below w.heap.size w w') : Duo w' B g1 r1 g2 r2 l1 l2 v1 v2 p1 p2 := ⟨h.a.below hb, h.b.below hb, h.d⟩
theorem Duo.first {w w' : World} {B g1 r1 g2 r2 : Nat} {l1 l2 : Int} {v1 v2 v' : Value} {p1 p2 p' : ByteArray} (h : Duo w B g1 r1 g2 r2 l1 l2 v1 v2 p1 p2) (hg : g2 ≠ g1) (hr : r2 ≠ r1) (k : Tri w w' g1 r1 v1.ownBlock) (hA : Both w' B g1 r1 v' l1 p')
    (ho : v'.ownBlock = none ∨ v'.ownBlock = v1.ownBlock ∨ ∃ b, v'.ownBlock = some b ∧ w.heap.size ≤ b) : Duo w' B g1 r1 g2 r2 l1 l2 v' v2 p' p2 := by
  refine ⟨hA, Both.kept k h.a h.b hg hr h.d, fun q hq e => ?_⟩
  rcases ho with h1 | h1 | ⟨b, h1, h2⟩
  · rw [h1] at hq; cases hq
  · exact h.d q (by rw [← h1]; exact hq) e
  · have := (own_lt_of h.b e).2
    rw [h1] at hq
    injection hq with hq
    omega
theorem Duo.second {w w' : World} {B g1 r1 g2 r2 : Nat} {l1 l2 : Int} {v1 v2 v' : Value} {p1 p2 p' : ByteArray} (h : Duo w B g1 r1 g2 r2 l1 l2 v1 v2 p1 p2) (hg : g2 ≠ g1) (hr : r2 ≠ r1) (k : Tri w w' g2 r2 v2.ownBlock) (hB : Both w' B g2 r2 v' l2 p')
    (ho : v'.ownBlock = none ∨ v'.ownBlock = v2.ownBlock ∨ ∃ b, v'.ownBlock = some b ∧ w.heap.size ≤ b) : Duo w' B g1 r1 g2 r2 l1 l2 v1 v' p1 p' := by
  refine ⟨Both.kept k h.b h.a (Ne.symm hg) (Ne.symm hr) (fun q hq e => h.d q e hq), hB, fun q hq e => ?_⟩
  rcases ho with h1 | h1 | ⟨b, h1, h2⟩
  · rw [h1] at e; cases e
  · exact h.d q hq (by rw [← h1]; exact e)
  · have := (own_lt_of h.a hq).2
    rw [h1] at e
    injection e with e
    omega
theorem Both.lower {w : World} {B B' g gr : Nat} {v : Value} {limit : Int} {pre : ByteArray} (h : Both w B g gr v limit pre) (hb : B' ≤ B) : Both w B' g gr v limit pre := ⟨⟨h.fr.mem, Kd.R_lower h.fr.row hb⟩, h.rf⟩
def lastOps : List (Int × ByteArray) := [(2, ⟨#[]⟩), (3, ⟨#[]⟩), (4, ⟨#[]⟩), (1, ⟨#[48, 0]⟩), (4, ⟨#[]⟩)]
def lastCells : Array Value := #[.int .i64 2, .string ⟨#[]⟩, .int .i64 3, .string ⟨#[]⟩, .int .i64 4, .string ⟨#[]⟩, .int .i64 1, .string ⟨#[48, 0]⟩, .int .i64 4, .string ⟨#[]⟩]
theorem last_C {w : World} {b : Nat} (h : At w b 46 lastCells) : Kd.C kOp w (some ⟨b, 0, none⟩) 5 lastOps := by
  refine ⟨rfl, by decide, fun _ => ⟨_, rfl, fun j p hj => ?_⟩⟩
  have hj5 : j < 5 := by
    rcases Nat.lt_or_ge j 5 with h | h
    · exact h
    · rw [List.getElem?_eq_none (by exact h)] at hj; cases hj
  have key : ∀ (k : Int) (s : ByteArray), lastOps[j]? = some (k, s) → lastCells[j * 2]? = some (.int .i64 k) → lastCells[j * 2 + 1]? = some (.string s) → ∃ cs : List Value, cs.length = kOp.sz ∧ kOp.K w p cs ∧ ∀ i u, cs[i]? = some u → w.cell? ((⟨b, 0, none⟩ : Addr).add (j * kOp.sz + i)) = some u := by
    intro k s h1 h2 h3
    rw [h1] at hj
    injection hj with hj
    subst hj
    refine ⟨[.int .i64 k, .string s], rfl, ⟨[.int .i64 k], [.string s], rfl, rfl, rfl⟩, fun i u hu => ?_⟩
    rw [add_plain, h.cell]
    match i, hu with
    | 0, hu => injection hu with hu; subst hu; exact h2
    | 1, hu => injection hu with hu; subst hu; exact h3
  have : j = 0 ∨ j = 1 ∨ j = 2 ∨ j = 3 ∨ j = 4 := by omega
  rcases this with rfl | rfl | rfl | rfl | rfl
  all_goals exact key _ _ rfl rfl rfl
theorem last_size (i : Nat) : (lastOps.getD i (0, ⟨#[]⟩)).2.size ≤ 2 := by
  rcases Nat.lt_or_ge i 5 with h | h
  · have : i = 0 ∨ i = 1 ∨ i = 2 ∨ i = 3 ∨ i = 4 := by omega
    rcases this with rfl | rfl | rfl | rfl | rfl <;> decide
  · rw [List.getD_eq_getElem?_getD, List.getElem?_eq_none (by exact h)]; decide

set_option maxRecDepth 100000 in
set_option maxHeartbeats 8000000 in
theorem plays_any (limit other : Int) (A : Option Addr) (c : Nat) (ops : List (Int × ByteArray)) (w : World) (hC : Kd.C kOp w A ops.length ops) (hc : ops.length ≤ c) (hl : ops.length ≤ 1048576) (hz : tot ops ops.length ≤ 1048576) :
    Calls Try.prog 7 #[.agg #[.int .i64 limit, .int .i64 other, .slice A ops.length c]] w fun en w' => en = .returned (.bool true) ∧ Below w.heap.size w w' := by
  have HC := Lib.hid hC
  have ht : ∀ i, tot ops i ≤ 1048576 := fun i => Nat.le_trans (tot_le ops i) hz
  have HT := Lib.hid ht
  clear hC hz ht
  go_enter Try.func7, Try.ntmps7
  go_wp2_with fail
  refine gen1 (w := w) (G := fun W => Calls _ _ _ W _) fun W0 hB0 hzW k0 => ?_
  have x0 := (k0.cell 0).trans rfl
  have x1 := (k0.cell 1).trans rfl
  refine (New_st limit W0).mono ?_
  rintro en w1 ⟨g1, rfl, hg1, hF1, b1⟩
  have k1 := k0.below b1 k0.lt
  have B1 : Below w.heap.size w w1 := hB0.trans (b1.mono (by omega))
  have KK := Lib.hid k1
  have HF1 := Lib.hid hF1
  have HB1 := Lib.hid B1
  have y0 := (k1.cell 0).trans rfl
  have z01 : w.heap.size + 1 ≤ w1.heap.size := by have := b1.size; omega
  have hg1l := hF1.mem.lt
  clear x0 x1 k0 k1 hF1 B1 b1 hB0
  go_wp2_with fail
  refine (RNew_any limit w1).mono ?_
  rintro en w2 ⟨r1, rfl, hr1, hR1, b2⟩
  have hF2 := HF1.out.at b2
  have k2 := KK.out.below b2 KK.out.lt
  have B2 := HB1.out.trans (b2.mono HB1.out.size)
  have KK2 := Lib.hid k2
  have HF2 := Lib.hid hF2
  have HB2 := Lib.hid B2
  have HR2 := Lib.hid hR1
  have z1 := (k2.cell 1).trans rfl
  have z12 := b2.size
  have hr1l := hR1.lt
  clear y0 k2 hF2 B2 b2 hR1 KK HF1 HB1
  go_wp2_with fail
  refine (New_st other w2).mono ?_
  rintro en w3 ⟨g2, rfl, hg2, hG3, b3⟩
  have hF3 := HF2.out.at b3
  have hR3 : RfAt w3 r1 limit ⟨#[]⟩ := HR2.out.below b3 hr1l
  have k3 := KK2.out.below b3 KK2.out.lt
  have B3 := HB2.out.trans (b3.mono HB2.out.size)
  have KK3 := Lib.hid k3
  have HF3 := Lib.hid hF3
  have HB3 := Lib.hid B3
  have HR3 := Lib.hid hR3
  have HG3 := Lib.hid hG3
  have y1 := (k3.cell 1).trans rfl
  have z23 := b3.size
  have hg2l := hG3.mem.lt
  clear z1 k3 hF3 B3 b3 hR3 hG3 KK2 HF2 HB2 HR2
  go_wp2_with fail
  refine (RNew_any other w3).mono ?_
  rintro en w4 ⟨r2, rfl, hr2, hR4, b4⟩
  have hF4 := HF3.out.at b4
  have hG4 := HG3.out.at b4
  have hR1 : RfAt w4 r1 limit ⟨#[]⟩ := HR3.out.below b4 (by omega)
  have k4 := KK3.out.below b4 KK3.out.lt
  have B4 := HB3.out.trans (b4.mono HB3.out.size)
  have hne : g2 ≠ g1 := by omega
  have hnr : r2 ≠ r1 := by omega
  have hduo : Duo w4 w.heap.size g1 r1 g2 r2 limit other (.slice none 0 0) (.slice none 0 0) ⟨#[]⟩ ⟨#[]⟩ :=
    ⟨Both.lower ⟨hF4, hR1⟩ (by omega), Both.lower ⟨hG4, hR4⟩ (by omega), fun q hq => by simp [Value.ownBlock] at hq⟩
  have KK4 := Lib.hid k4
  have HB4 := Lib.hid B4
  have HD4 := Lib.hid hduo
  have q1 : w.heap.size ≤ g1 := by omega
  have q2 : w.heap.size ≤ r1 := by omega
  have q3 : w.heap.size ≤ g2 := by omega
  have q4 : w.heap.size ≤ r2 := by omega
  clear y1 k4 B4 b4 hR4 hF4 hG4 hR1 hduo KK3 HF3 HB3 HR3 HG3
  go_wp2_with fail
  go_loopw [7] (fun vi wr => ∃ (i : Nat) (v1 v2 : Value) (p1 p2 : ByteArray), i ≤ ops.length ∧ vi = .int .i64 i ∧ Duo wr w.heap.size g1 r1 g2 r2 limit other v1 v2 p1 p2 ∧ p1.size ≤ tot ops i ∧ p2.size ≤ tot ops i ∧
      At wr w.heap.size 39 #[.int .i64 limit, .int .i64 other, .slice A ops.length c] ∧ Below w.heap.size w wr)
    (fun i _ => ops.length - (intOf i).toNat)
  case atStart => exact ⟨0, _, _, _, _, Nat.zero_le _, rfl, HD4.out, Nat.le_refl _, Nat.le_refl _, KK4.out, HB4.out⟩
  case round =>
    obtain ⟨i, v1, v2, p1, p2, hi, rfl, hD, s1, s2, rK, rB⟩ := hrel
    have c2 := (rK.cell 2).trans rfl
    have lk := rK.lt
    by_cases hil : i < ops.length
    · obtain ⟨ad, eA, x0, x1⟩ := op_at (Kd.C_below HC.out rB) i hil
      subst eA
      obtain ⟨o, ho⟩ : ∃ o, o = ops.getD i (0, ⟨#[]⟩) := ⟨_, rfl⟩
      have hts := tot_succ ops i hil
      have hti := HT.out (i + 1)
      rw [← ho] at x0 x1 hts
      have t0 : (0 : Int) ≤ i := by omega
      have t1 : (i : Int) < ops.length := by omega
      have hle1 : p1.size + o.2.size ≤ 16777216 := by omega
      have hle2 : p2.size + o.2.size ≤ 16777216 := by omega
      have HD := Lib.hid hD
      have RK := Lib.hid rK
      have RB := Lib.hid rB
      have HTS := Lib.hid hts
      have HO := Lib.hid ho
      have wz := rB.size
      clear ho hD rK rB hts
      go_wp2_with fail
      refine (step_any wr w.heap.size g1 r1 v1 limit o.1 p1 o.2 HD.out.a wz hle1).mono ?_
      rintro en w5 ⟨v1', p1', rfl, hA5, hp5, ho5, hT5⟩
      have hD5 := HD.out.first hne hnr hT5 hA5 ho5
      have k5 := hT5.at HD.out.a RK.out (by decide) (by decide) (by decide)
      have B5 := hT5.base HD.out.a RB.out wz q1 q2 (Nat.le_refl _)
      have C5 := Kd.C_below HC.out B5
      obtain ⟨ad', eA, x0', x1'⟩ := op_at C5 i hil
      injection eA with eA
      subst eA
      rw [← HO.out] at x0' x1'
      have HD5 := Lib.hid hD5
      have RK5 := Lib.hid k5
      have RB5 := Lib.hid B5
      have wz5 := B5.size
      have c5 := (k5.cell 2).trans rfl
      clear x0 x1 c2 HD RK RB hA5 ho5 hT5 hD5 k5 B5 C5
      go_wp2_with fail
      refine (step_any w5 w.heap.size g2 r2 v2 other o.1 p2 o.2 HD5.out.b wz5 hle2).mono ?_
      rintro en w6 ⟨v2', p2', rfl, hA6, hp6, ho6, hT6⟩
      have hD6 := HD5.out.second hne hnr hT6 hA6 ho6
      have k6 := hT6.at HD5.out.b RK5.out (by decide) (by decide) (by decide)
      have B6 := hT6.base HD5.out.b RB5.out wz5 q3 q4 (Nat.le_refl _)
      have HD6 := Lib.hid hD6
      have RK6 := Lib.hid k6
      have RB6 := Lib.hid B6
      clear x0' x1' c5 HD5 RK5 RB5 hA6 ho6 hT6 hD6 k6 B6
      go_wp2
      go_roundw
      case rel => exact ⟨i + 1, v1', v2', p1', p2', by omega, by go_num, HD6.out, by rw [HTS.out]; omega, by rw [HTS.out]; omega, RK6.out, RB6.out⟩
      case measure => simp [intOf]; omega
    · obtain rfl : i = ops.length := by omega
      have hsz1 : p1.size ≤ 1048576 := Nat.le_trans s1 (HT.out _)
      have hsz2 : p2.size ≤ 1048576 := Nat.le_trans s2 (HT.out _)
      have HD := Lib.hid hD
      have RB := Lib.hid rB
      clear hD rB rK s1 s2 HD4 KK4 HB4
      go_upto_region 12 with fail
      go_cut [8] from 55 (fun v8 wx => ∃ ad, v8 = .slice (some ad) 5 5 ∧ Hid (ad = ⟨wr.heap.size, 0, none⟩) ∧ At wx wr.heap.size 46 lastCells ∧ Below wr.heap.size wr wx)
      case first =>
        go_wp2_with fail
        go_meet
        case rel => exact ⟨⟨wr.heap.size, 0, none⟩, rfl, rfl, At.new _ _ _, (Below.refl _ _).alloc (Nat.le_refl _) _⟩
      case rest =>
        obtain ⟨ad, rfl, HAD, aL, bL⟩ := hcut
        have hD0 := HD.out.below bL
        have B0 := RB.out.trans (bL.mono RB.out.size)
        have HD0 := Lib.hid hD0
        have HB0 := Lib.hid B0
        obtain ⟨bl, hbl⟩ : ∃ bl, bl = wr.heap.size := ⟨_, rfl⟩
        rw [← hbl] at HAD aL
        have AL := Lib.hid aL
        clear HD RB hD0 B0 bL aL hbl
        obtain ⟨wrA, hwrA⟩ : ∃ x, x = wr := ⟨_, rfl⟩
        clear hwrA
        go_wp2_with fail
        go_loopw [9] (fun vi wr2 => ∃ (i : Nat) (v1 v2 : Value) (p1 p2 : ByteArray), i ≤ 5 ∧ vi = .int .i64 i ∧ Duo wr2 w.heap.size g1 r1 g2 r2 limit other v1 v2 p1 p2 ∧ p1.size ≤ 1048576 + 2 * i ∧ p2.size ≤ 1048576 + 2 * i ∧
            At wr2 bl 46 lastCells ∧ Below w.heap.size w wr2)
          (fun i _ => 5 - (intOf i).toNat)
        case atStart => exact ⟨0, _, _, _, _, by omega, rfl, HD0.out, by omega, by omega, AL.out, HB0.out⟩
        case round =>
          obtain ⟨i, u1, u2, p1, p2, hi, rfl, hD, s1, s2, rL, rB⟩ := hrel
          by_cases hil : i < 5
          · have hcl := last_C rL
            rw [← HAD.out] at hcl
            obtain ⟨ad', eA, x0, x1⟩ := op_at hcl i hil
            injection eA with eA
            subst eA
            obtain ⟨o, ho⟩ : ∃ o, o = lastOps.getD i (0, ⟨#[]⟩) := ⟨_, rfl⟩
            have hos := last_size i
            rw [← ho] at x0 x1 hos
            have t0 : (0 : Int) ≤ i := by omega
            have t1 : (i : Int) < 5 := by omega
            have hle1 : p1.size + o.2.size ≤ 16777216 := by omega
            have hle2 : p2.size + o.2.size ≤ 16777216 := by omega
            have HD := Lib.hid hD
            have RL := Lib.hid rL
            have RB := Lib.hid rB
            have HO := Lib.hid ho
            have wz := rB.size
            clear ho hD rL rB hcl
            go_wp2_with fail
            refine (step_any wr w.heap.size g1 r1 u1 limit o.1 p1 o.2 HD.out.a wz hle1).mono ?_
            rintro en w5 ⟨v1', p1', rfl, hA5, hp5, ho5, hT5⟩
            have hD5 := HD.out.first hne hnr hT5 hA5 ho5
            have k5 := hT5.at HD.out.a RL.out (by decide) (by decide) (by decide)
            have B5 := hT5.base HD.out.a RB.out wz q1 q2 (Nat.le_refl _)
            have hcl5 := last_C k5
            rw [← HAD.out] at hcl5
            obtain ⟨ad'', eA, x0', x1'⟩ := op_at hcl5 i hil
            injection eA with eA
            subst eA
            rw [← HO.out] at x0' x1'
            have HD5 := Lib.hid hD5
            have RK5 := Lib.hid k5
            have RB5 := Lib.hid B5
            have wz5 := B5.size
            clear x0 x1 HD RL RB hA5 ho5 hT5 hD5 k5 B5 hcl5
            go_wp2_with fail
            refine (step_any w5 w.heap.size g2 r2 u2 other o.1 p2 o.2 HD5.out.b wz5 hle2).mono ?_
            rintro en w6 ⟨v2', p2', rfl, hA6, hp6, ho6, hT6⟩
            have hD6 := HD5.out.second hne hnr hT6 hA6 ho6
            have k6 := hT6.at HD5.out.b RK5.out (by decide) (by decide) (by decide)
            have B6 := hT6.base HD5.out.b RB5.out wz5 q3 q4 (Nat.le_refl _)
            have HD6 := Lib.hid hD6
            have RK6 := Lib.hid k6
            have RB6 := Lib.hid B6
            clear x0' x1' HD5 RK5 RB5 hA6 ho6 hT6 hD6 k6 B6
            go_wp2
            go_roundw
            case rel => exact ⟨i + 1, v1', v2', p1', p2', by omega, by go_num, HD6.out, by omega, by omega, RK6.out, RB6.out⟩
            case measure => simp [intOf]; omega
          · obtain rfl : i = 5 := by omega
            have RB := Lib.hid rB
            clear hD rL rB
            go_wp2
            go_ret
            exact ⟨rfl, RB.out⟩
end Go.Proofs.Ytcjlpedpiljnmaa.W
