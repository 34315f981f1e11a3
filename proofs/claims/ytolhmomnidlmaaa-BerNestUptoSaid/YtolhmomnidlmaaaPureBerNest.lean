/- BerNest: an element that Join makes, joined into a made one again and again: Tree takes it up to 64 elements, one in the other; of more it tells the error and the place of the 65th. (Arguments of at most 1048576 bytes.) -/
import Derived.Test.YtolhmomnidlmaaaStBerNest
import Derived.Test.YtolhmomnidlmaaaMj
import Derived.Lib.Hide
namespace Go.Proofs.Ytolhmomnidlmaaa.Pure
open Go.RowKit Go.Proofs.Ytolhmomnidlmaaa.GT Go.Proofs.Ytolhmomnidlmaaa.W Go.Proofs.YtolhmomnidlmaaaW.PrintWords Go.Proofs.YtolhmomnidlmaaaW.PrintLast
set_option linter.unusedVariables false
set_option linter.unusedSimpArgs false

section
variable (c : Int) (inner : ByteArray)
/-- The element, joined i times. -/
def nS : Nat → ByteArray
  | 0 => layS c false 4 inner
  | i + 1 => layS 0 true 16 (nS i)
def nT : Nat → Tr
  | 0 => .leaf c 4 inner (wideK inner.size)
  | i + 1 => .made 0 16 (.cons (nT i) .nil) (wideK (nS c inner i).size)
theorem nS_size (i : Nat) : (nS c inner i).size ≤ inner.size + 6 * (i + 1) := by
  induction i with
  | zero => have := lay_size c false 4 inner; rw [nS]; omega
  | succ i ih => have := lay_size 0 true 16 (nS c inner i); rw [nS]; omega
theorem nS_enc (h0 : 0 ≤ c) (h1 : c ≤ 3) (hs : inner.size ≤ 1048576) : ∀ i : Nat, i ≤ 200 → bytesOf (nS c inner i) = encT (nT c inner i) := by
  intro i
  induction i with
  | zero => intro _; rw [nS, nT, encT, lay_bytes ⟨h0, h1, by omega, by omega⟩ (by omega)]
  | succ i ih =>
    intro hi
    have hb := nS_size c inner i
    have he : (encF (.cons (nT c inner i) .nil)) = bytesOf (nS c inner i) := by rw [encF, encF, List.append_nil, ih (by omega)]
    have hl : ((encF (.cons (nT c inner i) .nil)).length : Int) = (nS c inner i).size := by rw [he, bytesOf_length]
    rw [nS, nT, encT, lay_bytes ⟨by omega, by omega, by omega, by omega⟩ (by omega), hl, he]
theorem nT_ok (h0 : 0 ≤ c) (h1 : c ≤ 3) (hs : inner.size ≤ 1048576) : ∀ i : Nat, i ≤ 200 → okT (nT c inner i) ∧ deepT (nT c inner i) = i + 1 := by
  intro i
  induction i with
  | zero => intro _; exact ⟨⟨⟨h0, h1, by omega, by omega⟩, wide_ok (by omega) (by omega)⟩, by rw [nT, deepT]; rfl⟩
  | succ i ih =>
    intro hi
    have hb := nS_size c inner i
    obtain ⟨i1, i2⟩ := ih (by omega)
    have hl : ((encF (.cons (nT c inner i) .nil)).length : Int) = (nS c inner i).size := by rw [encF, encF, List.append_nil, ← nS_enc c inner h0 h1 hs i (by omega), bytesOf_length]
    refine ⟨⟨⟨by omega, by omega, by omega, by omega⟩, ?_, i1, trivial⟩, ?_⟩
    · rw [hl]; exact wide_ok (by omega) (by omega)
    · rw [nT, deepT, deepF, deepF, i2]
      rw [if_neg (by omega)]
      omega
theorem nT_flat (d : Int) : ∀ i : Nat, flatT d (nT c inner i) = (List.range i).map (fun (j : Nat) => ((d + (j : Int), 0, true, 16, ⟨#[]⟩) : NodeT)) ++ [(d + i, c, false, 4, inner)] := by
  intro i
  induction i generalizing d with
  | zero => rw [nT, flatT]; simp
  | succ i ih =>
    rw [nT, flatT, flatF, flatF, ih (d + 1), List.append_nil, List.range_succ_eq_map, List.map_cons, List.map_map]
    simp only [List.cons_append]
    congr 1
    · simp
    · congr 1
      · apply List.map_congr_left
        intro j hj
        simp only [Function.comp]
        congr 1
        omega
      · congr 2
        omega
/-- Too deep: the place of the 65th. -/
theorem nT_deep (h0 : 0 ≤ c) (h1 : c ≤ 3) (hs : inner.size ≤ 1048576) (s : ByteArray) : ∀ (i : Nat) (n : Nat) (p e d : Int), i ≤ 200 → 1 ≤ d → d ≤ 64 → 65 ≤ d + i → Has s p (encT (nT c inner i)) → p + (nS c inner i).size ≤ e → 2 * (nS c inner i).size + 1 ≤ n →
    ∃ l, elemF s n p e d = (l, .error (25, p + (nS c inner i).size - (nS c inner (i + d.toNat - 65)).size)) := by
  intro i
  induction i with
  | zero => intro n p e d hi hd0 hd hdi; omega
  | succ i ih =>
    intro n p e d hi hd0 hd hdi h he hn
    obtain ⟨n, rfl⟩ : ∃ m, n = m + 1 := ⟨n - 1, by omega⟩
    have hb := nS_size c inner i
    have henc := nS_enc c inner h0 h1 hs (i + 1) (by omega)
    have henci := nS_enc c inner h0 h1 hs i (by omega)
    have hl : ((encF (.cons (nT c inner i) .nil)).length : Int) = (nS c inner i).size := by rw [encF, encF, List.append_nil, ← henci, bytesOf_length]
    have hlen : ((nS c inner (i + 1)).size : Int) = hsz (wideK (nS c inner i).size) + (nS c inner i).size := by
      have := congrArg List.length henc
      rw [bytesOf_length, nT, encT, List.length_append] at this
      have h2 := head_len 0 true 16 ((encF (.cons (nT c inner i) .nil)).length : Int) (wideK (nS c inner i).size)
      omega
    have hok : okForm ((nS c inner i).size : Int) (wideK (nS c inner i).size) := wide_ok (by omega) (by omega)
    have hz := hsz_range _ (okForm_le hok)
    rw [nT, encT, hl] at h
    have hr := h.right
    rw [head_len] at hr
    have hh := hdr_has h.left (by omega) (by omega) (by omega) (by omega) (by omega) hok (d := d) (e := e) hd (by omega)
    have hbd : bnd s p e d = .ok ⟨0, true, 16, (nS c inner i).size, hsz (wideK (nS c inner i).size)⟩ := by
      unfold bnd
      rw [hh]
      simp only
      rw [if_neg (by omega)]
    rw [encF, encF, List.append_nil] at hr
    have hsz0 : 2 ≤ (nS c inner i).size := by
      have := enc_two (nT c inner i)
      rw [← henci, bytesOf_length] at this
      exact this
    obtain ⟨n, rfl⟩ : ∃ m, n = m + 1 := ⟨n - 1, by omega⟩
    rw [elemF, hbd]
    simp only [if_true]
    rw [elemsF, if_pos (by omega)]
    by_cases c1 : d = 64
    · subst c1
      obtain ⟨n, rfl⟩ : ∃ m, n = m + 1 := ⟨n - 1, by omega⟩
      have hbe : bnd s (p + hsz (wideK (nS c inner i).size)) (p + hsz (wideK (nS c inner i).size) + (nS c inner i).size) (64 + 1) = .error (25, p + hsz (wideK (nS c inner i).size)) := by
        unfold bnd hdr
        rw [if_pos (by omega)]
      rw [elemF, hbe]
      simp only
      have e1 : i + 1 + (64 : Int).toNat - 65 = i := by omega
      have e2 : p + ((nS c inner (i + 1)).size : Int) - ((nS c inner i).size : Int) = p + hsz (wideK (nS c inner i).size) := by omega
      rw [e1, e2]
      exact ⟨_, rfl⟩
    · obtain ⟨l, hl2⟩ := ih n (p + hsz (wideK (nS c inner i).size)) (p + hsz (wideK (nS c inner i).size) + (nS c inner i).size) (d + 1) (by omega) (by omega) (by omega) (by omega) hr (by omega) (by omega)
      rw [hl2]
      simp only
      have e1 : i + 1 + d.toNat - 65 = i + (d + 1).toNat - 65 := by omega
      have e2 : p + ((nS c inner (i + 1)).size : Int) - ((nS c inner (i + (d + 1).toNat - 65)).size : Int) = p + hsz (wideK (nS c inner i).size) + (nS c inner i).size - (nS c inner (i + (d + 1).toNat - 65)).size := by omega
      rw [e1, e2]
      exact ⟨_, rfl⟩
end
theorem and3 (x : Int) : 0 ≤ Go.bits .and .i64 x 3 ∧ Go.bits .and .i64 x 3 ≤ 3 := by
  have h : Go.bits .and .i64 x 3 = IntKind.i64.wrap ((BitVec.ofInt 64 x &&& BitVec.ofInt 64 3).toNat : Int) := rfl
  have h2 : (BitVec.ofInt 64 x &&& BitVec.ofInt 64 3).toNat ≤ 3 := by
    rw [BitVec.toNat_and]
    exact Nat.le_trans Nat.and_le_right (by decide)
  rw [h, IntKind.wrap_i64]
  omega
theorem join_nest {cls tag : Int} {made : Bool} {body : ByteArray} (h0 : 0 ≤ cls) (h1 : cls ≤ 3) (t0 : 0 ≤ tag) (t1 : tag < 31) (hb : body.size ≤ 4294967295) : ber_Join.f cls made tag body = some (layS cls made tag body, 0) := by
  have : joinR cls made tag body = (layS cls made tag body, 0) := by
    unfold joinR namedB
    rw [if_pos (by simp; omega), if_pos hb]
  unfold ber_Join.f
  rw [this]
theorem getD_nodes (c : Int) (inner : ByteArray) (n i : Nat) (hi : i < n) : rd_T49 ((flatT 1 (nT c inner n)).map ber_Tree.up) (i : Int) = ⟨1 + i, 0, true, 16, ⟨#[]⟩⟩ := by
  unfold rd_T49
  rw [nT_flat]
  simp [List.getD_eq_getElem?_getD, List.getElem?_append, hi, ber_Tree.up]
theorem getD_last (c : Int) (inner : ByteArray) (n : Nat) : rd_T49 ((flatT 1 (nT c inner n)).map ber_Tree.up) (n : Int) = ⟨1 + n, c, false, 4, inner⟩ := by
  unfold rd_T49
  rw [nT_flat]
  simp [List.getD_eq_getElem?_getD, List.getElem?_append, ber_Tree.up]

theorem end_deep (c x1 : Int) (inner Z : ByteArray) (L : List Int) (i : Nat) (at_ : Int) (hi : i ≤ 200) (hd : 64 < i + 1) (hL : L.length = i + 1) (hz : Z.size ≤ 2097152) (ha : 0 ≤ at_) (ha2 : at_ ≤ 2097152)
    (hT : ber_Tree.f Z = some ([], 25, at_)) (hrd : rd L ((i - 64 : Nat) : Int) = (Z.size : Int) - at_) : Ev (fun k => rosterlaw02_BerNest.l0 k inner x1 i Z L i) true := by
  refine Ev.step (f := fun _ => some true) (fun k => ?_) (Ev.now _)
  have e1 : ((i : Int) - 64) = ((i - 64 : Nat) : Int) := by omega
  have q1 : ¬ (i : Int) < (i : Int) := by omega
  have q2 : ((i : Int) + 1) > 64 := by omega
  have q3 : (0 : Int) ≤ ((i - 64 : Nat) : Int) := by omega
  have q4 : ((i - 64 : Nat) : Int) < (L.length : Int) := by omega
  have q5 : (Z.size : Int) - ((Z.size : Int) - at_) = at_ := by omega
  rw [rosterlaw02_BerNest.l0, if_neg q1, hT, Option.bind_some, wr64 ((i : Int) + 1) (by omega) (by omega), if_pos q2]
  dsimp only
  rw [if_pos rfl, if_pos (show ((([] : List S49).length : Nat) : Int) = 0 from rfl), e1, wr64 ((i - 64 : Nat) : Int) (by omega) (by omega), if_pos q3, if_pos q4, hrd, q5, wr64 at_ (by omega) (by omega)]
  simp
theorem end_ok (c x1 : Int) (inner Z : ByteArray) (L : List Int) (F : List S49) (i : Nat) (hc : Hid (c = Go.bits .and .i64 x1 3)) (hi : i ≤ 200) (hd : ¬ 64 < i + 1) (hll : (F.length : Int) = i + 1) (hT : ber_Tree.f Z = some (F, 0, 0))
    (hFj : ∀ j : Nat, j < i → rd_T49 F (j : Int) = ⟨1 + j, 0, true, 16, ⟨#[]⟩⟩) (hFi : rd_T49 F (i : Int) = ⟨1 + i, c, false, 4, inner⟩) : Ev (fun k => rosterlaw02_BerNest.l0 k inner x1 i Z L i) true := by
  have q1 : ¬ (i : Int) < (i : Int) := by omega
  have q2 : ¬ ((i : Int) + 1) > 64 := by omega
  have hne : ((F.length : Int) != (i : Int) + 1) = false := by rw [hll]; exact bne_self_eq_false _
  refine Ev.step (f := fun k => rosterlaw02_BerNest.j2 k inner x1 i F false) (fun k => ?_) ?_
  · rw [rosterlaw02_BerNest.l0, if_neg q1, hT, Option.bind_some, wr64 ((i : Int) + 1) (by omega) (by omega), if_neg q2]
    dsimp only
    rw [if_pos rfl, hne]
  refine Ev.step (f := fun k => rosterlaw02_BerNest.l1 k inner x1 i F 0) (fun k => by rw [rosterlaw02_BerNest.j2, if_neg Bool.false_ne_true]) ?_
  have key2 : ∀ (q j : Nat), j + q = i → Ev (fun k => rosterlaw02_BerNest.l1 k inner x1 i F j) true := by
    intro q
    induction q with
    | zero =>
      intro j hj
      obtain rfl : j = i := by omega
      have q3 : (0 : Int) ≤ (j : Int) := by omega
      have q4 : (j : Int) < (F.length : Int) := by omega
      refine Ev.step (f := fun _ => some true) (fun k => ?_) (Ev.now _)
      rw [rosterlaw02_BerNest.l1, if_neg q1, if_pos q3, if_pos q4, hFi, wr64 ((j : Int) + 1) (by omega) (by omega), ← hc.out]
      have e : (1 : Int) + j = j + 1 := by omega
      simp [e]
    | succ q ih =>
      intro j hj
      have q2 : (j : Int) < (i : Int) := by omega
      have q3 : (0 : Int) ≤ (j : Int) := by omega
      have q4 : (j : Int) < (F.length : Int) := by omega
      have e : ((j : Int) + 1) = ((j + 1 : Nat) : Int) := by omega
      have e2 : (1 : Int) + j = ((j + 1 : Nat) : Int) := by omega
      refine Ev.step (fun k => ?_) (ih (j + 1) (by omega))
      rw [rosterlaw02_BerNest.l1, if_pos q2, if_pos q3, if_pos q4, hFj j (by omega), e, wr64 ((j + 1 : Nat) : Int) (by omega) (by omega), e2, if_neg (by simp)]
  have := key2 i 0 (by omega)
  rw [Int.natCast_zero] at this
  exact this
theorem nest_loop (c x1 : Int) (inner : ByteArray) (n : Nat) (hc : Hid (c = Go.bits .and .i64 x1 3)) (hc3 : 0 ≤ c ∧ c ≤ 3) (hs : inner.size ≤ 1048576) (hn : n ≤ 200) : ∀ (m i : Nat), i + m = n → ∀ L : List Int, L.length = i + 1 → (∀ j : Nat, j ≤ i → L.getD j 0 = (nS c inner j).size) →
    Ev (fun k => rosterlaw02_BerNest.l0 k inner x1 n (nS c inner i) L i) true := by
  intro m
  induction m with
  | zero =>
    intro i hi L hL hLs
    obtain rfl : i = n := by omega
    have hsz := nS_size c inner i
    have henc := nS_enc c inner hc3.1 hc3.2 hs i hn
    have hok := nT_ok c inner hc3.1 hc3.2 hs i hn
    have hhas := has_of henc
    have hlen : ((nS c inner i).size : Int) = (encT (nT c inner i)).length := by rw [← henc, bytesOf_length]
    have hT : ber_Tree.f (nS c inner i) = some ((treeS (nS c inner i)).1.map ber_Tree.up, (treeS (nS c inner i)).2.1, (treeS (nS c inner i)).2.2) := by
      unfold ber_Tree.f
      rw [if_pos (by omega)]
    by_cases hd : 64 < i + 1
    · obtain ⟨l, hl⟩ := nT_deep c inner hc3.1 hc3.2 hs (nS c inner i) i (2 * (nS c inner i).size + 1) 0 (nS c inner i).size 1 hn (by omega) (by omega) (by omega) hhas (by omega) (by omega)
      have hmono : (nS c inner (i - 64)).size ≤ (nS c inner i).size := by
        have : ∀ a b : Nat, (nS c inner a).size ≤ (nS c inner (a + b)).size := by
          intro a b
          induction b with
          | zero => exact Nat.le_refl _
          | succ b ihb =>
            refine Nat.le_trans ihb ?_
            show _ ≤ (nS c inner (a + b + 1)).size
            rw [nS]
            unfold layS
            rw [ByteArray.size_append]
            omega
        have h2 := this (i - 64) 64
        have e : i - 64 + 64 = i := by omega
        rwa [e] at h2
      have ht : treeS (nS c inner i) = ([], 25, ((nS c inner i).size : Int) - ((nS c inner (i - 64)).size : Int)) := by
        unfold treeS walkS
        rw [hl]
        simp only [treeR]
        have e1 : i + (1 : Int).toNat - 65 = i - 64 := by omega
        rw [e1]
        congr 2
        omega
      rw [ht] at hT
      refine end_deep c x1 inner (nS c inner i) L i (((nS c inner i).size : Int) - ((nS c inner (i - 64)).size : Int)) hn hd hL (by omega) (by omega) (by omega) hT ?_
      have h3 := hLs (i - 64) (by omega)
      have h4 : rd L ((i - 64 : Nat) : Int) = L.getD (i - 64) 0 := by unfold rd; rw [Int.toNat_natCast]
      rw [h4, h3]
      omega
    · have ht := tree_enc hok.1 (by rw [hok.2]; omega) hhas hlen
      rw [ht] at hT
      refine end_ok c x1 inner (nS c inner i) L _ i hc hn hd ?_ hT (fun j hj => getD_nodes c inner i j hj) (getD_last c inner i)
      rw [List.length_map, nT_flat]
      simp
  | succ m ih =>
    intro i hi L hL hLs
    have hsz := nS_size c inner i
    have e1 : ((i : Int) + 1) = ((i + 1 : Nat) : Int) := by omega
    have q1 : (i : Int) < (n : Int) := by omega
    have q2 : L.length < 17592186044416 := by omega
    refine Ev.step (fun k => ?_) (ih (i + 1) (by omega) (L ++ [((nS c inner (i + 1)).size : Int)]) (by rw [List.length_append, hL]; rfl) ?_)
    · rw [rosterlaw02_BerNest.l0, if_pos q1, join_nest (by omega) (by omega) (by omega) (by omega) (by omega)]
      simp only [Option.bind_some]
      rw [if_pos trivial, if_pos q2, e1, wr64 ((i + 1 : Nat) : Int) (by omega) (by omega)]
      rfl
    · intro j hj
      by_cases hji : j ≤ i
      · rw [List.getD_eq_getElem?_getD, List.getElem?_append_left (by omega), ← List.getD_eq_getElem?_getD, hLs j hji]
      · obtain rfl : j = i + 1 := by omega
        rw [List.getD_eq_getElem?_getD, List.getElem?_append_right (by omega), hL]
        simp
theorem BerNest : StBerNest.Pure := by
  intro inner x1 x2 hs w1 w2
  refine Ev.rounds (g := fun k => rosterlaw02_BerNest.f k inner x1 x2) ?_
  obtain ⟨c, hc⟩ : ∃ c, c = Go.bits .and .i64 x1 3 := ⟨_, rfl⟩
  have hc3 := and3 x1
  rw [← hc] at hc3
  have HC : Hid (c = Go.bits .and .i64 x1 3) := hc
  clear hc
  have htrue : Ev (fun k => rosterlaw02_BerNest.j0 k inner x1 x2 true) true := Ev.step (f := fun _ => some true) (fun k => by rw [rosterlaw02_BerNest.j0, if_pos rfl]) (Ev.now _)
  by_cases c1 : x2 < 0
  · exact Ev.congr (fun k => by rw [rosterlaw02_BerNest.f, if_pos c1]) htrue
  by_cases c2 : x2 > 200
  · exact Ev.congr (fun k => by rw [rosterlaw02_BerNest.f, if_neg c1, if_pos c2]) htrue
  have hdf : decide ((inner.size : Int) > 1048576) = false := by rw [decide_eq_false_iff_not]; omega
  refine Ev.congr (f := fun k => rosterlaw02_BerNest.j0 k inner x1 x2 false) (fun k => by rw [rosterlaw02_BerNest.f, if_neg c1, if_neg c2, hdf]) ?_
  obtain ⟨n, rfl⟩ : ∃ n : Nat, x2 = n := ⟨x2.toNat, by omega⟩
  have hn : n ≤ 200 := by omega
  refine Ev.step (f := fun k => rosterlaw02_BerNest.l0 k inner x1 n (nS c inner 0) [((nS c inner 0).size : Int)] ((0 : Nat) : Int)) (fun k => ?_) (nest_loop c x1 inner n HC hc3 hs hn n 0 (by omega) _ rfl ?_)
  · rw [rosterlaw02_BerNest.j0, if_neg (by simp), ← HC.out, join_nest hc3.1 hc3.2 (by omega) (by omega) (by omega)]
    simp only [Option.bind_some]
    rw [if_pos trivial]
    rfl
  · intro j hj
    obtain rfl : j = 0 := by omega
    rfl
end Go.Proofs.Ytolhmomnidlmaaa.Pure
