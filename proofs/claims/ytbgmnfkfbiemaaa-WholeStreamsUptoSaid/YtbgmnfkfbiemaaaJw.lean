/- Texts of this session in one: Wsp, Wsq, Wsl -/
import Derived.Test.YtbgmnfkfbiemaaaMj
import Derived.Test.YtbgmnfkfbiemaaaIp
import Derived.Test.YtbgmnfkfbiemaaaJf
import Derived.Test.YtbgmnfkfbiemaaaGTx1
import Derived.Test.YtbgmnfkfbiemaaaGTx2
import Derived.Deep.CutRange
import Derived.Deep.Cut
import Derived.Test.YtbgmnfkfbiemaaaFSp
import Derived.Test.YtbgmnfkfbiemaaaJt
import Derived.Test.YtbgmnfkfbiemaaaJm
/-! ## Plain law of the statement WholeStreams: the messages that are written, and that they are read back. -/
namespace Go.Proofs.Ytbgmnfkfbiemaaa.W
open Go.RowKit Go.Proofs.YtbgmnfkfbiemaaaW.PrintWords
set_option linter.unusedVariables false
set_option linter.unusedSimpArgs false

/-- The nodes of the message of a content. -/
def nodesN (b : ByteArray) : List NodeT := [(1, 0, true, 16, ⟨#[]⟩), (2, 0, false, 4, b), (2, 0, false, 2, putS b.size)]
def msgN (b : ByteArray) : ByteArray := layS 0 true 16 (layS 0 false 4 b ++ layS 0 false 2 (putS b.size))
theorem em_app (s : ByteArray) : (⟨#[]⟩ : ByteArray) ++ s = s := nil_app s
theorem write_msg (b : ByteArray) : writeS (nodesN b) = (msgN b, 0, 0) := by
  have hn0 : nd (nodesN b) 0 = (1, 0, true, 16, ⟨#[]⟩) := rfl
  have hn1 : nd (nodesN b) 1 = (2, 0, false, 4, b) := rfl
  have hn2 : nd (nodesN b) 2 = (2, 0, false, 2, putS b.size) := rfl
  have hl : (nodesN b).length = 3 := rfl
  have hb : badN (nodesN b) 4 0 = none := by
    rw [badN, hl, if_pos (by omega), hn0, if_pos (by rfl), if_neg (by simp), badN, hl, if_pos (by omega), hn1, if_pos (by unfold prevOf; rw [if_neg (by omega), hn0]; rfl), if_neg (by simp),
      badN, hl, if_pos (by omega), hn2, if_pos (by unfold prevOf; rw [if_neg (by omega), hn1]; rfl), if_neg (by simp), badN, hl, if_neg (by omega)]
  unfold writeS
  rw [hl, if_neg (by omega), hb]
  simp only
  have hw : (wrE (nodesN b) (2 * 3 + 2) 0).1 = msgN b := by
    rw [show 2 * 3 + 2 = 7 + 1 from rfl, wrE, hn0, if_pos rfl]
    show layS 0 true 16 (wrK (nodesN b) 7 1 1 ⟨#[]⟩).1 = _
    rw [wrK, hl, hn1, if_pos ⟨by omega, by omega⟩, wrE, hn1, if_neg (by simp)]
    show layS 0 true 16 (wrK (nodesN b) 6 2 1 (⟨#[]⟩ ++ layS 0 false 4 b)).1 = _
    rw [em_app, wrK, hl, hn2, if_pos ⟨by omega, by omega⟩, wrE, hn2, if_neg (by simp)]
    show layS 0 true 16 (wrK (nodesN b) 5 3 1 (layS 0 false 4 b ++ layS 0 false 2 (putS b.size))).1 = _
    rw [wrK, hl, if_neg (by omega)]
    rfl
  rw [hw]
/-- The message as a tree. -/
def inN (b : ByteArray) : ByteArray := layS 0 false 4 b ++ layS 0 false 2 (putS b.size)
def treeN (b : ByteArray) : Tr := .made 0 16 (.cons (.leaf 0 4 b (wideK b.size)) (.cons (.leaf 0 2 (putS b.size) (wideK (putS b.size).size)) .nil)) (wideK (inN b).size)
theorem put_small (b : ByteArray) (hb : b.size ≤ 16777216) : 1 ≤ (putS b.size).size ∧ (putS b.size).size ≤ 8 := by
  have h := int_put (b.size : Int) (by omega) (by omega)
  exact ⟨h.2.1, h.2.2.1⟩
theorem inN_size (b : ByteArray) (hb : b.size ≤ 16777216) : (inN b).size ≤ b.size + 20 := by
  have h1 := lay_size 0 false 4 b
  have h2 := lay_size 0 false 2 (putS b.size)
  have h3 := put_small b hb
  unfold inN
  rw [ByteArray.size_append]
  omega
theorem okN16 : okN 0 16 := ⟨by omega, by omega, by omega, by omega⟩
theorem okN4 : okN 0 4 := ⟨by omega, by omega, by omega, by omega⟩
theorem okN2 : okN 0 2 := ⟨by omega, by omega, by omega, by omega⟩
theorem in_bytes (b : ByteArray) (hb : b.size ≤ 16777216) : bytesOf (inN b) = encF (.cons (.leaf 0 4 b (wideK b.size)) (.cons (.leaf 0 2 (putS b.size) (wideK (putS b.size).size)) .nil)) := by
  have h3 := put_small b hb
  unfold inN
  rw [bytesOf_append, lay_bytes okN4 (by omega), lay_bytes okN2 (by omega), encF, encF, encF, encT, encT, List.append_nil]
theorem msg_bytes (b : ByteArray) (hb : b.size ≤ 16777216) : bytesOf (msgN b) = encT (treeN b) := by
  have h := in_bytes b hb
  have hz := inN_size b hb
  have e : msgN b = layS 0 true 16 (inN b) := rfl
  rw [e, lay_bytes okN16 (by omega), h]
  unfold treeN
  rw [encT, ← h, bytesOf_length]
theorem tree_ok (b : ByteArray) (hb : b.size ≤ 16777216) : okT (treeN b) := by
  have h3 := put_small b hb
  have hz := inN_size b hb
  have h := in_bytes b hb
  unfold treeN
  rw [okT, ← h, bytesOf_length, okF, okF, okF, okT, okT]
  exact ⟨okN16, wide_ok (by omega) (by omega), ⟨okN4, wide_ok (by omega) (by omega)⟩, ⟨okN2, wide_ok (by omega) (by omega)⟩, trivial⟩
theorem msg_tree (b : ByteArray) (hb : b.size ≤ 16777216) : treeS (msgN b) = (nodesN b, 0, 0) := by
  have h := msg_bytes b hb
  have hl : ((msgN b).size : Int) = (encT (treeN b)).length := by rw [← h, bytesOf_length]
  have := tree_enc (tree_ok b hb) (by unfold treeN; simp [deepT, deepF]) (has_of h) hl
  rw [this]
  unfold treeN
  simp only [flatT, flatF, List.append_nil, List.singleton_append]
  rfl
/-- The message as the framer sees it. -/
theorem look_of_hdr {s : ByteArray} {h : Hd} {limit : Int} (h0 : byt s 0 = 48) (hh : hdr s 0 s.size 1 = .ok h) (hl : h.size + h.len ≤ limit) : lookS limit s = (h.size, h.len, 0) := by
  unfold hdr at hh
  rw [if_neg (by omega)] at hh
  by_cases c0 : (s.size : Int) ≤ 0
  · rw [if_pos c0] at hh; cases hh
  rw [if_neg c0, if_neg (by rw [h0]; omega)] at hh
  by_cases c1 : (s.size : Int) ≤ 0 + 1
  · rw [if_pos c1] at hh; cases hh
  rw [if_neg c1] at hh
  have e1 : (0 : Int) + 1 = 1 := rfl
  have e2 : (0 : Int) + 2 = 2 := rfl
  rw [e1, e2] at hh
  unfold lookS
  rw [if_neg (by omega), if_neg (by rw [h0]; simp), if_neg (by omega)]
  by_cases c2 : byt s 1 < 128
  · rw [if_pos c2] at hh
    injection hh with hh
    subst hh
    simp only at hl
    rw [if_neg (by omega), if_neg (by omega), if_pos c2, if_neg (by omega)]
  rw [if_neg c2] at hh
  by_cases c3 : byt s 1 = 128
  · rw [if_pos c3] at hh; cases hh
  rw [if_neg c3] at hh
  by_cases c4 : 132 < byt s 1
  · rw [if_pos c4] at hh; cases hh
  rw [if_neg c4] at hh
  by_cases c5 : (s.size : Int) < 0 + (byt s 1 - 126)
  · rw [if_pos c5] at hh; cases hh
  rw [if_neg c5] at hh
  injection hh with hh
  subst hh
  simp only at hl
  rw [if_neg c3, if_neg c4, if_neg c2, if_neg (by omega)]
theorem msg_msg (b : ByteArray) (hb : b.size ≤ 1000000) : ∃ a n, Msg (msgN b) a n ∧ a + n ≤ 1048576 := by
  have h := msg_bytes b (by omega)
  have hz := inN_size b (by omega)
  have hh := has_of h
  have hin := in_bytes b (by omega)
  have he : encT (treeN b) = headB 0 true 16 ((inN b).size : Int) (wideK (inN b).size) ++ bytesOf (inN b) := by
    unfold treeN
    rw [encT, ← hin, bytesOf_length]
  rw [he] at hh
  have hw := wide_ok (n := ((inN b).size : Int)) (by omega) (by omega)
  have hl : ((msgN b).size : Int) = (headB 0 true 16 ((inN b).size : Int) (wideK (inN b).size)).length + (inN b).size := by
    rw [← bytesOf_length (msgN b), h, he, List.length_append, bytesOf_length]
    omega
  have hk : wideK ((inN b).size : Int) ≤ 4 := by unfold wideK; repeat' split
                                                 all_goals omega
  have hlen : ((headB 0 true 16 ((inN b).size : Int) (wideK (inN b).size)).length : Int) = hsz (wideK (inN b).size) := head_len _ _ _ _ _
  have hs2 : 2 ≤ hsz (wideK (inN b).size) ∧ hsz (wideK (inN b).size) ≤ 6 := by unfold hsz; split <;> omega
  have hd := hdr_has (s := msgN b) (p := 0) (e := (msgN b).size) (d := 1) hh.left (by omega) (by omega) (by omega) (by omega) (by omega) hw (by omega) (by omega)
  have b0 := hh.left.at 0 (by unfold headB; simp)
  have b0' : byt (msgN b) 0 = 48 := by
    rw [Int.natCast_zero, Int.add_zero] at b0
    rw [b0]
    rfl
  obtain ⟨a, ha⟩ : ∃ a, a = hsz (wideK ((inN b).size : Int)) := ⟨_, rfl⟩
  obtain ⟨n, hn⟩ : ∃ n : Int, n = ((inN b).size : Int) := ⟨_, rfl⟩
  rw [← ha] at hlen hs2 hd
  rw [← hn] at hd
  have hlk : ∀ limit : Int, a + n ≤ limit → lookS limit (msgN b) = (a, n, 0) := fun limit hlim => look_of_hdr b0' hd hlim
  refine ⟨a, n, ⟨hs2.1, hs2.2, by omega, by omega, hlk⟩, by omega⟩
theorem msg_size (b : ByteArray) (hb : b.size ≤ 1000000) : (msgN b).size ≤ b.size + 26 := by
  have h1 := lay_size 0 true 16 (inN b)
  have h2 := inN_size b (by omega)
  have e : msgN b = layS 0 true 16 (inN b) := rfl
  rw [e]
  omega
end Go.Proofs.Ytbgmnfkfbiemaaa.W

/-! ## Plain law of rostertop's helpers: what they answer. -/
namespace Go.Proofs.Ytbgmnfkfbiemaaa.W
open Go.RowKit Go.Proofs.Ytbgmnfkfbiemaaa.GT Go.Proofs.YtbgmnfkfbiemaaaW.PrintWords Go.Proofs.YtbgmnfkfbiemaaaW.PrintLast Go.Proofs.YtbgmnfkfbiemaaaW.PrintMore
set_option linter.unusedVariables false
set_option linter.unusedSimpArgs false

theorem w64a {x : Int} (h0 : -9223372036854775808 ≤ x) (h1 : x ≤ 9223372036854775807) : wrap64 x = x := by unfold wrap64; omega
theorem son_app (l m : List Int) : strOfNums l ++ strOfNums m = strOfNums (l ++ m) := by
  apply ByteArray.ext
  have hd : ∀ l, (strOfNums l).data = (l.map fun n => UInt8.ofNat n.toNat).toArray := fun _ => rfl
  rw [ByteArray.data_append, hd, hd, hd, List.map_append, ← List.append_toArray]
theorem td256 {n : Int} (h : 0 ≤ n) (hn : n ≤ 1000000000) : wrap64 (Int.tdiv n 256) = n / 256 := by
  rw [Int.tdiv_eq_ediv_of_nonneg h]
  exact w64a (by omega) (by omega)
theorem tm256 {n : Int} (h : 0 ≤ n) : Int.tmod n 256 % 256 = n % 256 := by
  rw [Int.tmod_eq_emod_of_nonneg h]
  omega
theorem lb_step (k : Nat) (acc : List Int) (n : Int) (h : 0 < n) (hn : n ≤ 1000000000) (ha : acc.length ≤ 10) : rostertop_lengthBytes.l0 (k + 1) acc n = rostertop_lengthBytes.l0 k (n % 256 :: acc) (n / 256) := by
  rw [rostertop_lengthBytes.l0, if_pos (by omega), Option.bind_some, if_pos (by simp; omega), td256 (by omega) hn, tm256 (by omega)]
  rfl
theorem lb_end (k : Nat) (acc : List Int) (n q : Int) (h : n = 0) (ha : acc.length ≤ 10) (hq : 128 + (acc.length : Int) = q) : rostertop_lengthBytes.l0 (k + 1) acc n = some (strOfNums (q :: acc)) := by
  rw [rostertop_lengthBytes.l0, if_neg (by omega), Option.bind_some, if_pos (by simp; omega), w64a (by omega) (by omega)]
  have e : (128 + (acc.length : Int)) % 256 = q := by omega
  rw [e]
  rfl
theorem lb_f (n : Int) (h0 : 0 ≤ n) (h1 : n ≤ 16777215) (k : Nat) : rostertop_lengthBytes.f (k + 8) n = some (strOfNums (lenNums n)) := by
  unfold rostertop_lengthBytes.f lenNums
  by_cases c0 : n < 128
  · rw [if_pos c0, if_pos c0]
    have e : n % 256 = n := by omega
    rw [e]
  rw [if_neg c0, if_neg c0, lb_step _ _ _ (by omega) (by omega) (by simp)]
  by_cases c1 : n < 256
  · rw [if_pos c1, lb_end _ _ _ 129 (by omega) (by simp) (by simp)]
    have e : n % 256 = n := by omega
    rw [e]
  rw [if_neg c1, lb_step _ _ _ (by omega) (by omega) (by simp)]
  by_cases c2 : n < 65536
  · rw [if_pos c2, lb_end _ _ _ 130 (by omega) (by simp) (by simp)]
    have e : n / 256 % 256 = n / 256 := by omega
    rw [e]
  rw [if_neg c2, lb_step _ _ _ (by omega) (by omega) (by simp), if_pos (by omega), lb_end _ _ _ 131 (by omega) (by simp) (by simp)]
  have e : n / 256 / 256 % 256 = n / 65536 := by omega
  rw [e]
theorem el_f (a : Int) (body : ByteArray) (hb : body.size ≤ 16777215) (k : Nat) : rostertop_element.f (k + 8) a body = some (strOfNums (a :: lenNums body.size) ++ body) := by
  have hl := lenNums_len body.size
  unfold rostertop_element.f
  rw [Option.bind_some, lb_f _ (by omega) (by omega), Option.bind_some, strOfNums_size, strOfNums_size, if_pos (by simp; omega), son_app, List.singleton_append, strOfNums_size, if_pos (by simp; omega)]
theorem nb_step (k : Nat) (a : Int) (acc : List Int) (n : Int) (h : 0 < n) (hn : n ≤ 1000000000) (ha : acc.length ≤ 10) : rostertop_number.l0 (k + 1) a acc n = rostertop_number.l0 k a (n % 256 :: acc) (n / 256) := by
  rw [rostertop_number.l0, if_pos (by omega), Option.bind_some, if_pos (by simp; omega), td256 (by omega) hn, tm256 (by omega)]
  rfl
theorem putL_1 (n : Int) : putL n 1 = [n % 256] := by simp [putL, putAt]
theorem putL_2 (n : Int) : putL n 2 = [n / 256 % 256, n % 256] := by simp [putL, putAt, List.ofFn_succ]
theorem putL_3 (n : Int) : putL n 3 = [n / 65536 % 256, n / 256 % 256, n % 256] := by simp [putL, putAt, List.ofFn_succ]
/-- The number's own bytes. -/
def numB : List Int → List Int
  | [] => [0]
  | x :: l => if 128 ≤ x then 0 :: x :: l else x :: l
theorem numB_hi {x : Int} {l : List Int} (h : 128 ≤ x) : numB (x :: l) = 0 :: x :: l := by
  show (if 128 ≤ x then 0 :: x :: l else x :: l) = _
  rw [if_pos h]
theorem numB_lo {x : Int} {l : List Int} (h : ¬ 128 ≤ x) : numB (x :: l) = x :: l := by
  show (if 128 ≤ x then 0 :: x :: l else x :: l) = _
  rw [if_neg h]
theorem putC_1 {n : Int} (h0 : 0 ≤ n) (h1 : n < 128) : putC n = 1 := by unfold putC; rw [if_pos ⟨by omega, by omega⟩]
theorem putC_2 {n : Int} (h0 : 128 ≤ n) (h1 : n < 32768) : putC n = 2 := by unfold putC; rw [if_neg (by omega), if_pos ⟨by omega, by omega⟩]
theorem putC_3 {n : Int} (h0 : 32768 ≤ n) (h1 : n < 8388608) : putC n = 3 := by unfold putC; rw [if_neg (by omega), if_neg (by omega), if_pos ⟨by omega, by omega⟩]
theorem nb_end (k : Nat) (a : Int) (acc : List Int) (n : Int) (h : n = 0) (ha : acc.length ≤ 10) : rostertop_number.l0 (k + 9) a acc n =
    some (strOfNums (a :: lenNums (strOfNums (numB acc)).size) ++ strOfNums (numB acc)) := by
  rw [show k + 9 = (k + 8) + 1 from rfl, rostertop_number.l0, if_neg (by omega)]
  cases acc with
  | nil =>
    rw [if_pos (by simp), Option.bind_some, if_pos (by simp)]
    have e : ([0] ++ [] : List Int) = numB [] := rfl
    rw [e, el_f _ _ (by rw [strOfNums_size]; simp [numB]), Option.bind_some]
  | cons x l =>
    have hx : rd (x :: l) 0 = x := rfl
    rw [if_neg (by rw [List.length_cons]; omega), if_pos (by rw [List.length_cons]; omega), hx]
    by_cases c : 128 ≤ x
    · have e : numB (x :: l) = 0 :: x :: l := numB_hi c
      rw [if_pos (by omega), e, Option.bind_some, if_pos (by simp at ha ⊢; omega)]
      have e : ([0] ++ x :: l : List Int) = 0 :: x :: l := rfl
      rw [e, el_f _ _ (by rw [strOfNums_size]; simp at ha ⊢; omega), Option.bind_some]
    · have e : numB (x :: l) = x :: l := numB_lo c
      rw [if_neg (by omega), e, el_f _ _ (by rw [strOfNums_size]; simp at ha ⊢; omega), Option.bind_some]
theorem nb_f (a n : Int) (h0 : 0 ≤ n) (h1 : n ≤ 1000000) (k : Nat) : rostertop_number.f (k + 12) a n = some (strOfNums (a :: lenNums (putS n).size) ++ putS n) := by
  have key : ∀ acc m, m = 0 → acc.length ≤ 10 → numB acc = putL n (putC n) → ∀ j, 9 ≤ j → rostertop_number.l0 j a acc m = some (strOfNums (a :: lenNums (putS n).size) ++ putS n) := by
    intro acc m hm ha hb j hj
    obtain ⟨q, rfl⟩ : ∃ q, j = q + 9 := ⟨j - 9, by omega⟩
    rw [nb_end q a acc m hm ha, hb]
    rfl
  unfold rostertop_number.f
  by_cases c0 : n = 0
  · refine key _ _ c0 (by simp) ?_ _ (by omega)
    rw [putC_1 (by omega) (by omega), putL_1, c0]
    rfl
  rw [nb_step _ _ _ _ (by omega) (by omega) (by simp)]
  by_cases c1 : n < 256
  · refine key _ _ (by omega) (by simp) ?_ _ (by omega)
    have e1 : n % 256 = n := by omega
    rw [e1]
    by_cases c : 128 ≤ n
    · rw [numB_hi c, putC_2 c (by omega), putL_2]
      have e2 : n / 256 % 256 = 0 := by omega
      rw [e2, e1]
    · rw [numB_lo c, putC_1 h0 (by omega), putL_1, e1]
  rw [nb_step _ _ _ _ (by omega) (by omega) (by simp)]
  by_cases c2 : n < 65536
  · refine key _ _ (by omega) (by simp) ?_ _ (by omega)
    have e1 : n / 256 % 256 = n / 256 := by omega
    rw [e1]
    by_cases c : 128 ≤ n / 256
    · rw [numB_hi c, putC_3 (by omega) (by omega), putL_3]
      have e2 : n / 65536 % 256 = 0 := by omega
      rw [e2, e1]
    · rw [numB_lo c, putC_2 (by omega) (by omega), putL_2, e1]
  rw [nb_step _ _ _ _ (by omega) (by omega) (by simp)]
  refine key _ _ (by omega) (by simp) ?_ _ (by omega)
  have e1 : n / 256 / 256 % 256 = n / 65536 % 256 := by omega
  rw [e1, numB_lo (by omega), putC_3 (by omega) (by omega), putL_3]
theorem first16 : firstOf 0 true 16 = 48 := by decide
theorem first4 : firstOf 0 false 4 = 4 := by decide
theorem first2 : firstOf 0 false 2 = 2 := by decide
set_option maxRecDepth 100000 in
theorem bodies_l0 (l : List ByteArray) (hl : l.length ≤ 1048576) (hs : ∀ b ∈ l, b.size ≤ 1000000) : ∀ (d i : Nat) (acc : List ByteArray), i + d = l.length → acc.length ≤ i →
    rostertop_bodiesOf.l0 (d + 20) acc l l.length i = some (acc ++ (l.drop i).map msgN, true) := by
  intro d
  induction d with
  | zero =>
    intro i acc hi ha
    rw [rostertop_bodiesOf.l0, if_neg (by omega), List.drop_of_length_le (by omega)]
    simp
  | succ d ih =>
    intro i acc hi ha
    have hil : i < l.length := by omega
    have hx : rdOf ByteArray.empty l (i : Int) = l[i] := by
      show l.getD (i : Int).toNat _ = _
      simp [hil]
    have hz := hs _ (List.getElem_mem hil)
    obtain ⟨b, hb⟩ : ∃ b, b = l[i] := ⟨_, rfl⟩
    rw [← hb] at hx hz
    have h3 := put_small b (by omega)
    have hin := inN_size b (by omega)
    have hw := write_msg b
    have hwt : wt (nodesN b) 0 (nodesN b).length ≤ 134217728 := by
      have e0 : (⟨#[]⟩ : ByteArray).size = 0 := rfl
      unfold wt nodesN
      simp [e0]
      omega
    rw [show d + 1 + 20 = (d + 20) + 1 from by omega, rostertop_bodiesOf.l0, if_pos (by omega), if_pos (by omega), if_pos (by omega), hx]
    have hp : ber_PutInt.f (b.size : Int) = some (putS b.size) := by
      unfold ber_PutInt.f
      rw [if_pos ⟨by omega, by omega⟩]
    rw [hp, Option.bind_some]
    have hwr : ber_Write.f ([(⟨1, 0, true, 16, (⟨#[]⟩ : ByteArray)⟩ : S40), (⟨2, 0, false, 4, b⟩ : S40), (⟨2, 0, false, 2, putS b.size⟩ : S40)]) = some (msgN b, 0, 0) := by
      unfold ber_Write.f
      have e : ([(⟨1, 0, true, 16, (⟨#[]⟩ : ByteArray)⟩ : S40), (⟨2, 0, false, 4, b⟩ : S40), (⟨2, 0, false, 2, putS b.size⟩ : S40)]).map ber_Write.dn = nodesN b := rfl
      rw [e, if_pos ⟨by unfold nodesN; simp, hwt⟩, hw]
    rw [hwr, Option.bind_some, if_pos rfl]
    have e1 : rostertop_element.f (d + 20) 4 b = some (layS 0 false 4 b) := by
      rw [show d + 20 = (d + 12) + 8 from rfl, el_f _ _ (by omega)]
      unfold layS
      rw [first4]
    have e2 : rostertop_number.f (d + 20) 2 (b.size : Int) = some (layS 0 false 2 (putS b.size)) := by
      rw [show d + 20 = (d + 8) + 12 from rfl, nb_f _ _ (by omega) (by omega)]
      unfold layS
      rw [first2]
    have e3 : rostertop_element.f (d + 20) 48 (layS 0 false 4 b ++ layS 0 false 2 (putS b.size)) = some (msgN b) := by
      have e : layS 0 false 4 b ++ layS 0 false 2 (putS b.size) = inN b := rfl
      rw [e, show d + 20 = (d + 12) + 8 from rfl, el_f _ _ (by omega)]
      have e2 : msgN b = layS 0 true 16 (inN b) := rfl
      rw [e2]
      unfold layS
      rw [first16]
    have hz4 := lay_size 0 false 4 b
    have hz2 := lay_size 0 false 2 (putS b.size)
    rw [e1, Option.bind_some, e2, Option.bind_some, if_pos (by omega), e3, Option.bind_some, if_pos rfl, if_pos (by omega), w64a (by omega) (by omega)]
    have e4 : (i : Int) + 1 = ((i + 1 : Nat) : Int) := rfl
    rw [e4, ih (i + 1) _ (by omega) (by rw [List.length_append]; simp; omega), List.append_assoc]
    have e5 : l.drop i = b :: l.drop (i + 1) := by rw [hb]; exact List.drop_eq_getElem_cons hil
    rw [e5]
    rfl
theorem bodies_f (l : List ByteArray) (hl : l.length ≤ 1048576) (hs : ∀ b ∈ l, b.size ≤ 1000000) : rostertop_bodiesOf.f (l.length + 20) l = some (l.map msgN, true) := by
  unfold rostertop_bodiesOf.f
  have := bodies_l0 l hl hs l.length 0 [] (by omega) (by simp)
  rw [Int.natCast_zero] at this
  rw [this]
  simp
theorem mod_f (x : Int) (h : -9223372036854775808 ≤ x ∧ x < 9223372036854775808) : ∃ r, rostertop_mod.f x 300 = some r ∧ 0 ≤ r ∧ r < 300 := by
  unfold rostertop_mod.f
  rw [if_neg (by omega)]
  have h1 : Int.tmod x 300 < 300 := Int.tmod_lt_of_pos x (by omega)
  have h2 : -300 < Int.tmod x 300 := by
    have := Int.lt_tmod_of_pos x (show (0 : Int) < 300 by omega)
    omega
  by_cases c : Int.tmod x 300 < 0
  · rw [if_pos c, w64a (by omega) (by omega)]
    exact ⟨_, rfl, by omega, by omega⟩
  · rw [if_neg c]
    exact ⟨_, rfl, by omega, by omega⟩
theorem ints_at {w : World} {A : Option Addr} {n : Nat} {xs : List Int} (h : Kd.C (Kd.int .i64) w A n xs) (i : Nat) (hi : i < n) : ∃ ad, A = some ad ∧ w.cell? (ad.add i) = some (.int .i64 (xs.getD i 0)) := by
  obtain ⟨ad, c, e, _, hK, hc0⟩ := Kd.C_get h (0 : Int) (i : Int) (by omega) (by omega)
  have hc : ∀ j u, c[j]? = some u → w.cell? (ad.add (i * 1 + j)) = some u := hc0
  obtain rfl := hK
  have := hc 0 _ rfl
  rw [Nat.mul_one, Nat.add_zero] at this
  exact ⟨ad, e, this⟩
set_option maxRecDepth 100000 in
set_option maxHeartbeats 4000000 in
/-- WHAT pieces ANSWERS: parts of the stream that are the stream, laid end to end. -/
theorem pieces_any (s : ByteArray) (A : Option Addr) (c : Nat) (cuts : List Int) (w : World) (hC : Kd.C (Kd.int .i64) w A cuts.length cuts) (hc : cuts.length ≤ c) (hw : ∀ x ∈ cuts, (Lit.int .i64 x).wf = true) (hl : cuts.length ≤ 1048576) (hs : s.size ≤ 16777216) :
    Calls Try.prog 6 #[.string s, .slice A cuts.length c] w fun en w' => ∃ (v : Value) (q : List ByteArray), en = .returned v ∧ Kd.R Kd.string 9 w' w.heap.size (fun _ => True) v q ∧ joinL q = s ∧ q.length ≤ cuts.length + 1 ∧ Below w.heap.size w w' := by
  have HC := Lib.hid hC
  have HW := Lib.hid hw
  clear hC hw
  go_enter Try.func6, Try.ntmps6
  go_wp2_with fail
  go_loopw [0, 5, 11] (fun vs vo vi wr => ∃ (k : Nat) (st : ByteArray) (acc : List ByteArray), k ≤ cuts.length ∧ vi = .int .i64 k ∧ vs = .string st ∧ Kd.R Kd.string 9 wr w.heap.size (fun _ => True) vo acc ∧ joinL acc ++ st = s ∧ acc.length = k ∧ Below w.heap.size w wr)
    (fun _ _ i _ => cuts.length - (intOf i).toNat)
  case atStart => exact ⟨0, s, [], Nat.zero_le _, rfl, rfl, Kd.R_nil _ _ _ _ _, by rw [joinL, nil_app], rfl, Below.refl _ _⟩
  case round =>
    obtain ⟨k, st, acc, hk, rfl, rfl, rO, hj, ha, rB⟩ := hrel
    obtain ⟨Ao, co, rfl⟩ := Kd.R_slice rO
    have hst : st.size ≤ 16777216 := by
      have : (joinL acc ++ st).size = (joinL acc).size + st.size := ByteArray.size_append
      rw [hj] at this
      omega
    have HJ := Lib.hid hj
    have RO := Lib.hid rO
    have hlen : (acc.length + 1) * 16 ≤ 140737488355328 := by omega
    have HA := Lib.hid ha
    clear hj rO ha
    by_cases hkl : k < cuts.length
    · obtain ⟨ad, eA, x0⟩ := ints_at (Kd.C_below HC.out rB) k hkl
      subst eA
      obtain ⟨x, hx⟩ : ∃ x, x = cuts.getD k 0 := ⟨_, rfl⟩
      rw [← hx] at x0
      have hxw : (Lit.int .i64 x).wf = true := by
        have e : x = cuts[k] := by rw [hx]; simp [hkl]
        rw [e]
        exact HW.out _ (List.getElem_mem _)
      obtain ⟨r, hr, r0, r1⟩ := mod_f x (wf_i64 hxw)
      have HR := Lib.hid hr
      have q0 : (0 : Int) ≤ k := by omega
      have q1 : (k : Int) < cuts.length := by omega
      clear hx hxw hr
      go_upto_if 20 with ((refine (rostertop_mod.calls x 300 r _ HR.out).mono ?_); rintro en w1 ⟨rfl, nd, rfl⟩)
      go_cut [8] from 13 to 32 (fun v8 wx => (∃ n : Nat, n ≤ st.size ∧ v8 = .int .i64 n) ∧ wx = wr.drewN nd)
      case first =>
        by_cases hgt : (st.size : Int) < r
        · go_wp2_with fail
          go_meet
          case rel => exact ⟨⟨st.size, Nat.le_refl _, rfl⟩, rfl⟩
        · go_wp2_with fail
          go_meet
          case rel => exact ⟨⟨r.toNat, by omega, by rw [Int.toNat_of_nonneg r0]⟩, rfl⟩
      case rest =>
        obtain ⟨⟨n, hn, rfl⟩, rfl⟩ := hcut
        have rO1 := Kd.R_drewN RO.out nd
        have B1 : Below w.heap.size w (wr.drewN nd) := below_draws rB nd
        have p0 : (0 : Int) ≤ n := by omega
        have p1 : (n : Int) ≤ st.size := by omega
        clear x0 RO
        generalize wr.drewN nd = W at rO1 B1 ⊢
        have RO := Lib.hid rO1
        have HB := Lib.hid B1
        clear rO1 B1
        go_wp2_with (at_builtin; go_must (refine Kd.R_append Kd.string (w0 := W) (W := W) w.heap.size rfl (.tmp 23) (.tmp 27) 22 9 (.string ⟨#[]⟩) 16 rfl Try.underlying22 info_str rfl (by decide) (by decide) (.slice Ao acc.length co) acc (st.extract 0 n) [.string (st.extract 0 n)] (fun _ => True) (fun _ => False) rfl rfl rfl (fun _ h => h.elim) (fun _ _ => trivial) RO.out (Below.refl _ _) HB.out.size hlen ?_); intro v8 w8 hR8 hb8 hg8 hat8)
        have B8 : Below w.heap.size w w8 := HB.out.grown hg8 HB.out.size (fun q hq => ((Kd.R_bound RO.out).1 q hq).2.1)
        have HR8 := Lib.hid hR8
        have HB8 := Lib.hid B8
        clear hR8 hb8 hg8 hat8 B8
        go_wp2_with fail
        go_roundw
        case rel => exact ⟨k + 1, _, acc ++ [st.extract 0 n], by omega, by go_num, rfl, HR8.out, by rw [joinL_app, joinL, joinL, app_nil, app_assoc, ext_split st n hn]; exact HJ.out, by rw [List.length_append, HA.out]; rfl, HB8.out⟩
        case measure => simp [intOf]; omega
    · obtain rfl : k = cuts.length := by omega
      go_wp2_with (at_builtin; go_must (refine Kd.R_append Kd.string (w0 := wr) (W := wr) w.heap.size rfl (.tmp 33) (.tmp 35) 22 9 (.string ⟨#[]⟩) 16 rfl Try.underlying22 info_str rfl (by decide) (by decide) (.slice Ao acc.length co) acc st [.string st] (fun _ => True) (fun _ => False) rfl rfl rfl (fun _ h => h.elim) (fun _ _ => trivial) RO.out (Below.refl _ _) rB.size hlen ?_); intro v8 w8 hR8 hb8 hg8 hat8)
      have B8 : Below w.heap.size w w8 := rB.grown hg8 rB.size (fun q hq => ((Kd.R_bound RO.out).1 q hq).2.1)
      go_ret
      exact ⟨_, _, rfl, hR8, by rw [joinL_app, joinL, joinL, app_nil]; exact HJ.out, by rw [List.length_append, HA.out]; exact Nat.le_refl _, B8⟩
theorem tsame_l0 (l : List ByteArray) (hl : l.length ≤ 1000000000) : ∀ (m i : Nat), i + m = l.length → rostertop_sameTexts.l0 (m + 1) l l l.length i = some true := by
  intro m
  induction m with
  | zero => intro i h; rw [rostertop_sameTexts.l0, if_neg (by omega)]
  | succ m ih =>
    intro i h
    have e : wrap64 ((i : Int) + 1) = ((i + 1 : Nat) : Int) := by rw [w64a (by omega) (by omega)]; rfl
    rw [rostertop_sameTexts.l0, if_pos (by omega), if_pos (by omega), if_pos (by omega), if_pos (by omega), if_pos rfl, e]
    exact ih (i + 1) (by omega)
theorem tsame_f (l : List ByteArray) (hl : l.length ≤ 1000000000) : rostertop_sameTexts.f (l.length + 1) l l = some true := by
  unfold rostertop_sameTexts.f
  rw [if_pos rfl]
  exact tsame_l0 l hl l.length 0 (by omega)
/-! how long the stream is -/
theorem lay_small {c t : Int} {m : Bool} {b : ByteArray} (h : b.size < 128) : (layS c m t b).size = b.size + 2 := by
  unfold layS lenNums
  rw [if_pos (by omega), ByteArray.size_append, strOfNums_size]
  simp
  omega
theorem msg_le (b : ByteArray) (hb : b.size ≤ 1000000) : (msgN b).size ≤ 7 * (b.size + 1) := by
  by_cases c : 4 ≤ b.size
  · have := msg_size b hb
    omega
  · have hp : (putS b.size).size = 1 := by
      unfold putS putC
      rw [if_pos ⟨by omega, by omega⟩, putL_1, strOfNums_size]
      rfl
    have h4 : (layS 0 false 4 b).size = b.size + 2 := lay_small (by omega)
    have h2 : (layS 0 false 2 (putS b.size)).size = 3 := by rw [lay_small (by omega), hp]
    have hi : (layS 0 false 4 b ++ layS 0 false 2 (putS b.size)).size = b.size + 5 := by rw [ByteArray.size_append, h4, h2]
    have : (msgN b).size = b.size + 7 := by
      unfold msgN
      rw [lay_small (by omega), hi]
    omega
theorem join_le : ∀ (l : List ByteArray), (∀ b ∈ l, b.size ≤ 1000000) → (joinL (l.map msgN)).size ≤ 7 * (l.map fun b => b.size + 1).sum
  | [], _ => Nat.zero_le _
  | b :: l, h => by
    have h1 := join_le l (fun x hx => h x (by simp [hx]))
    have h2 := msg_le b (h b (by simp))
    rw [List.map_cons, joinL, ByteArray.size_append, List.map_cons, List.sum_cons]
    omega
end Go.Proofs.Ytbgmnfkfbiemaaa.W

/-! ## Walk of the statement WholeStreams: it comes to true. -/
namespace Go.Proofs.Ytbgmnfkfbiemaaa.W
open Go.RowKit Go.Proofs.YtbgmnfkfbiemaaaW.PrintWords Go.Proofs.YtbgmnfkfbiemaaaW.PrintLast Go.Proofs.Ytbgmnfkfbiemaaa.GT
set_option linter.unusedVariables false
set_option linter.unusedSimpArgs false

theorem str_at {w : World} {A : Option Addr} {n : Nat} {xs : List ByteArray} (h : Kd.C Kd.string w A n xs) (i : Nat) (hi : i < n) : ∃ ad, A = some ad ∧ w.cell? (ad.add i) = some (.string (xs.getD i ⟨#[]⟩)) := by
  obtain ⟨ad, c, e, _, hK, hc0⟩ := Kd.C_get h (⟨#[]⟩ : ByteArray) (i : Int) (by omega) (by omega)
  have hc : ∀ j u, c[j]? = some u → w.cell? (ad.add (i * 1 + j)) = some u := hc0
  obtain rfl := hK
  have := hc 0 _ rfl
  rw [Nat.mul_one, Nat.add_zero] at this
  exact ⟨ad, e, this⟩
def pSmall (b : ByteArray) : Bool := decide (b.size ≤ 1000000)
theorem joinT_size (l : List ByteArray) (i : Nat) : (joinL (l.take i)).size ≤ (joinL l).size := by
  have h : joinL l = joinL (l.take i) ++ joinL (l.drop i) := by rw [← joinL_app, List.take_append_drop]
  have h2 : (joinL (l.take i) ++ joinL (l.drop i)).size = (joinL (l.take i)).size + (joinL (l.drop i)).size := ByteArray.size_append
  rw [h]
  omega
theorem join_pre (l : List ByteArray) (i : Nat) : joinL (l.take i) = (joinL l).extract 0 (joinL (l.take i)).size := by
  have h : joinL l = joinL (l.take i) ++ joinL (l.drop i) := by rw [← joinL_app, List.take_append_drop]
  rw [h]
  have := ext_front (joinL (l.take i)) (joinL (l.drop i)) (joinL (l.take i)).size (Nat.le_refl _)
  rw [this, extract_whole]
theorem sum_filter (l : List ByteArray) : ((l.filter pSmall).map fun b => b.size + 1).sum ≤ (l.map fun b => b.size + 1).sum := by
  induction l with
  | nil => simp
  | cons x l ih =>
    rw [List.filter_cons]
    split
    · simp only [List.map_cons, List.sum_cons]; omega
    · simp only [List.map_cons, List.sum_cons]; omega
/-- No front of a stream of messages is refused. -/
theorem front_good (L : Int) (ms : List ByteArray) (h : ∀ m ∈ ms, ∃ a n, Msg m a n ∧ a + n ≤ L) (i : Nat) (hi : i ≤ (joinL ms).size) : (cutAt L ((joinL ms).extract 0 i) 0).2.2 = 0 := by
  by_cases c : i < (joinL ms).size
  · exact (step_facts L ms h i c).1
  · have e : i = (joinL ms).size := by omega
    rw [e, extract_whole]
    have := cut_msgs L ⟨#[]⟩ ms h
    have c0 : cutAt L ⟨#[]⟩ 0 = ([], 0, 0) := cutAt_end (Nat.le_refl _)
    rw [app_nil, c0] at this
    rw [this]

set_option maxRecDepth 100000 in
set_option maxHeartbeats 8000000 in
theorem streams_any (A : Option Addr) (c : Nat) (bodies : List ByteArray) (F : Option Addr) (cf : Nat) (cuts : List Int) (w : World) (hC : Kd.C Kd.string w A bodies.length bodies) (hc : bodies.length ≤ c) (hF : Kd.C (Kd.int .i64) w F cuts.length cuts) (hcf : cuts.length ≤ cf)
    (hw : ∀ x ∈ cuts, (Lit.int .i64 x).wf = true) (hlc : cuts.length ≤ 1048576) (hz : (bodies.map fun b => b.size + 1).sum ≤ 1048576) :
    Calls Try.prog 3 #[.slice A bodies.length c, .slice F cuts.length cf] w fun en w' => en = .returned (.bool true) ∧ Below w.heap.size w w' := by
  have hlb : bodies.length ≤ 1048576 := by
    have : bodies.length ≤ (bodies.map fun b => b.size + 1).sum := by
      clear hC hc hz
      induction bodies with
      | nil => simp
      | cons x l ih => simp only [List.map_cons, List.sum_cons, List.length_cons]; omega
    omega
  have HZ := Lib.hid hz
  have HC := Lib.hid hC
  have HF := Lib.hid hF
  have HW := Lib.hid hw
  clear hC hF hw hz
  go_enter Try.func3, Try.ntmps3
  go_wp2_with fail
  go_loopw [5, 27] (fun vf vi wr => ∃ k : Nat, k ≤ bodies.length ∧ vi = .int .i64 k ∧ Kd.R Kd.string 9 wr w.heap.size (fun _ => True) vf ((bodies.take k).filter pSmall) ∧ Below w.heap.size w wr)
    (fun _ i _ => bodies.length - (intOf i).toNat)
  case atStart => exact ⟨0, Nat.zero_le _, rfl, Kd.R_nil _ _ _ _ _, Below.refl _ _⟩
  case round =>
    obtain ⟨k, hk, rfl, rF, rB⟩ := hrel
    obtain ⟨Af, cf', rfl⟩ := Kd.R_slice rF
    by_cases hkl : k < bodies.length
    · have hcb := Kd.C_below HC.out rB
      obtain ⟨ad, eA, x0⟩ := str_at hcb k hkl
      subst eA
      obtain ⟨b, hb⟩ : ∃ b, b = bodies.getD k ⟨#[]⟩ := ⟨_, rfl⟩
      rw [← hb] at x0
      have hbt : bodies.take (k + 1) = bodies.take k ++ [b] := by
        rw [List.take_succ_eq_append_getElem hkl, hb]
        simp [hkl]
      have q0 : (0 : Int) ≤ k := by omega
      have q1 : (k : Int) < bodies.length := by omega
      obtain ⟨xs, hxs⟩ : ∃ xs, xs = (bodies.take k).filter pSmall := ⟨_, rfl⟩
      have hxl : xs.length ≤ 1048576 := by
        rw [hxs]
        have := List.length_filter_le pSmall (bodies.take k)
        rw [List.length_take] at this
        omega
      have hnext : (bodies.take (k + 1)).filter pSmall = if b.size ≤ 1000000 then xs ++ [b] else xs := by
        rw [hbt, List.filter_append, ← hxs]
        by_cases c1 : b.size ≤ 1000000
        · rw [if_pos c1]; simp [pSmall, c1]
        · rw [if_neg c1]; simp [pSmall, c1]
      rw [← hxs] at rF ⊢
      have HN := Lib.hid hnext
      have RF := Lib.hid rF
      have hlen : (xs.length + 1) * 16 ≤ 140737488355328 := by omega
      clear hb hbt hnext hcb hxs rF
      by_cases c1 : b.size ≤ 1000000
      · have c2 : (b.size : Int) ≤ 1000000 := by omega
        have e := HN.out
        rw [if_pos c1] at e
        have E := Lib.hid e
        clear e c1
        go_wp2_with (at_builtin; go_must (refine Kd.R_append Kd.string (w0 := wr) (W := wr) w.heap.size rfl (.tmp 34) (.tmp 36) 22 9 (.string ⟨#[]⟩) 16 rfl Try.underlying22 info_str rfl (by decide) (by decide) (.slice Af xs.length cf') xs b [.string b] (fun _ => True) (fun _ => False) rfl rfl rfl (fun _ h => h.elim) (fun _ _ => trivial) RF.out (Below.refl _ _) rB.size hlen ?_); intro v8 w8 hR8 hb8 hg8 hat8)
        have B8 : Below w.heap.size w w8 := rB.grown hg8 rB.size (fun q hq => ((Kd.R_bound RF.out).1 q hq).2.1)
        rw [← E.out] at hR8
        go_roundw
        case rel => exact ⟨k + 1, by omega, by go_num, hR8, B8⟩
        case measure => simp [intOf]; omega
      · have c2 : ¬ (b.size : Int) ≤ 1000000 := by omega
        have e := HN.out
        rw [if_neg c1] at e
        have E := Lib.hid e
        clear e c1
        go_wp2_with fail
        go_roundw
        case rel => exact ⟨k + 1, by omega, by go_num, by rw [E.out]; exact RF.out, rB⟩
        case measure => simp [intOf]; omega
    · obtain rfl : k = bodies.length := by omega
      rw [List.take_length] at rF ⊢
      obtain ⟨fit, hfit⟩ : ∃ fit, fit = bodies.filter pSmall := ⟨_, rfl⟩
      rw [← hfit] at rF ⊢
      have hfs : ∀ b ∈ fit, b.size ≤ 1000000 := by
        intro b hb
        rw [hfit] at hb
        have := (List.mem_filter.1 hb).2
        simpa [pSmall] using this
      have hfl : fit.length ≤ 1048576 := by rw [hfit]; have := List.length_filter_le pSmall bodies; omega
      have hfz : (fit.map fun b => b.size + 1).sum ≤ 1048576 := by rw [hfit]; exact Nat.le_trans (sum_filter bodies) HZ.out
      obtain ⟨ms, hms⟩ : ∃ ms, ms = fit.map msgN := ⟨_, rfl⟩
      have hml : ms.length = fit.length := by rw [hms, List.length_map]
      have hmm : ∀ m ∈ ms, ∃ a n, Msg m a n ∧ a + n ≤ 1048576 := by
        intro m hm
        rw [hms] at hm
        obtain ⟨b, hb, rfl⟩ := List.mem_map.1 hm
        exact msg_msg b (hfs b hb)
      obtain ⟨S, hS⟩ : ∃ S, S = joinL ms := ⟨_, rfl⟩
      have hSz : S.size ≤ 7340032 := by rw [hS, hms]; have := join_le fit hfs; omega
      have hbf := bodies_f fit hfl hfs
      rw [← hms] at hbf
      have HFIT := Lib.hid hfit
      have HFS := Lib.hid hfs
      have HMS := Lib.hid hms
      have HML := Lib.hid hml
      have HMM := Lib.hid hmm
      have HS := Lib.hid hS
      have HBF := Lib.hid hbf
      clear hfit hfs hfz hms hml hmm hS hbf hk hkl
      have RF := Lib.hid rF
      clear rF
      go_wp2_with fail
      refine (rostertop_bodiesOf.calls _ Af cf' fit ms true wr (Kd.R_reads' RF.out).2.2 (Kd.R_reads' RF.out).2.1 HBF.out).mono ?_
      rintro en w1 ⟨v0, rfl, hR, hB⟩
      obtain ⟨Am, cm, rfl⟩ := Kd.R_slice hR
      have rF1 := Kd.R_below RF.out hB
      have B1 : Below w.heap.size w w1 := rB.trans (hB.mono rB.size)
      have RF1 := Lib.hid rF1
      have RM1 := Lib.hid hR
      have HB1 := Lib.hid B1
      clear RF rF1 hR hB B1 rB
      go_wp2_with fail
      go_loopw [10, 48] (fun vs vi wr2 => ∃ k : Nat, k ≤ ms.length ∧ vi = .int .i64 k ∧ vs = .string (joinL (ms.take k)) ∧ wr2 = w1)
        (fun _ i _ => ms.length - (intOf i).toNat)
      case atStart => exact ⟨0, Nat.zero_le _, rfl, rfl, rfl⟩
      case round =>
        obtain ⟨k, hk, rfl, rfl, hww⟩ := hrel
        obtain ⟨wq, hwq⟩ : ∃ wq, wq = wr := ⟨_, rfl⟩
        subst hww
        subst hwq
        by_cases hkl : k < ms.length
        · obtain ⟨ad, eA, x0⟩ := str_at (Kd.R_reads' RM1.out).2.2 k hkl
          subst eA
          obtain ⟨m, hm⟩ : ∃ m, m = ms.getD k ⟨#[]⟩ := ⟨_, rfl⟩
          rw [← hm] at x0
          have hj := join_take ms k hkl
          rw [← hm] at hj
          have hsz := joinT_size ms (k + 1)
          rw [hj, ← HS.out] at hsz
          have hjz : (joinL (ms.take k) ++ m).size = (joinL (ms.take k)).size + m.size := ByteArray.size_append
          have hcat : (joinL (ms.take k)).size + m.size ≤ 9223372036854775807 := by omega
          have q0 : (0 : Int) ≤ k := by omega
          have q1 : (k : Int) < ms.length := by omega
          have hml2 : ms.length ≤ 1048576 := by rw [HML.out]; exact hfl
          obtain ⟨J, hJ⟩ : ∃ J, J = joinL (ms.take k) := ⟨_, rfl⟩
          rw [← hJ] at hj hcat ⊢
          have HJ := Lib.hid hj
          clear hm hj hsz hjz hJ
          go_wp2_with fail
          go_roundw
          case rel => exact ⟨k + 1, by omega, by go_num, by rw [HJ.out], trivial⟩
          case measure => simp [intOf]; omega
        · obtain rfl : k = ms.length := by omega
          rw [List.take_length, ← HS.out]
          clear hk hkl
          go_wp2_with fail
          refine (New_st 1048576 wq).mono ?_
          rintro en w2 ⟨g, rfl, hg, hF, hB2⟩
          have rF2 := Kd.R_below RF1.out hB2
          have rM2 := Kd.R_below RM1.out hB2
          have B2 : Below w.heap.size w w2 := HB1.out.trans (hB2.mono HB1.out.size)
          have zz : w.heap.size ≤ wq.heap.size := HB1.out.size
          have RF2 := Lib.hid rF2
          have RM2 := Lib.hid rM2
          have HB2 := Lib.hid B2
          have HFR := Lib.hid hF
          clear rF2 rM2 B2 hF hB2 RF1 RM1 HB1
          go_wp2_with fail
          refine (pieces_any S F cf cuts _ (Kd.C_below HF.out HB2.out) hcf HW.out hlc (by omega)).mono ?_
          rintro en w3 ⟨vp, pcs, rfl, hRp, hp2, hp3, hB3⟩
          have HP2 := Lib.hid hp2
          clear hp2
          obtain ⟨Ap, cp, rfl⟩ := Kd.R_slice hRp
          have hF3 := HFR.out.at hB3
          have rF3 := Kd.R_below RF2.out hB3
          have rM3 := Kd.R_below RM2.out hB3
          have B3 : Below w.heap.size w w3 := HB2.out.trans (hB3.mono HB2.out.size)
          obtain ⟨N, hN⟩ : ∃ N, N = w3.heap.size := ⟨_, rfl⟩
          have rP : Kd.R Kd.string 9 w3 w2.heap.size (fun q => q < N) (.slice Ap pcs.length cp) pcs := Kd.R_mono (Kd.R_bound hRp) (fun q hq => by rw [hN]; exact hq.2.2.1)
          have rM : Kd.R Kd.string 9 w3 _ (fun q => q < N) (.slice Am ms.length cm) ms := Kd.R_mono (Kd.R_bound rM3) (fun q hq => by rw [hN]; exact hq.2.2.1)
          have rF : Kd.R Kd.string 9 w3 w.heap.size (fun q => q < N) (.slice Af fit.length cf') fit := Kd.R_mono (Kd.R_bound rF3) (fun q hq => by rw [hN]; exact hq.2.2.1)
          have gN : w.heap.size ≤ g := by omega
          have NN : N ≤ w3.heap.size := by omega
          have wN : w.heap.size ≤ N := by rw [hN]; exact B3.size
          have RP := Lib.hid rP
          have RM := Lib.hid rM
          have RF := Lib.hid rF
          have HF3 := Lib.hid hF3
          have HB3 := Lib.hid B3
          clear hRp hB3 hF3 rF3 rM3 rP rM rF B3 RF2 RM2 HB2 HFR hN
          go_wp2_with fail
          go_loopw [14, 63] (fun vg vi wr => ∃ (i : Nat) (v : Value), i ≤ pcs.length ∧ vi = .int .i64 i ∧ FrSt wr wq.heap.size g v 1048576 (joinL (pcs.take i)) ∧
              Kd.R Kd.string 9 wr N (fun _ => True) vg (cutAt 1048576 (joinL (pcs.take i)) 0).1 ∧ Kd.R Kd.string 9 wr w2.heap.size (fun q => q < N) (.slice Ap pcs.length cp) pcs ∧
              (∃ bm, Kd.R Kd.string 9 wr bm (fun q => q < N) (.slice Am ms.length cm) ms) ∧ Kd.R Kd.string 9 wr w.heap.size (fun q => q < N) (.slice Af fit.length cf') fit ∧ Below w.heap.size w wr ∧ N ≤ wr.heap.size)
            (fun _ i _ => pcs.length - (intOf i).toNat)
          case atStart =>
            have e0 : cutAt 1048576 (joinL (pcs.take 0)) 0 = ([], 0, 0) := cutAt_end (Nat.le_refl _)
            refine ⟨0, .slice none 0 0, Nat.zero_le _, rfl, HF3.out, by rw [e0]; exact Kd.R_nil _ _ _ _ _, RP.out, ⟨_, RM.out⟩, RF.out, HB3.out, NN⟩
          case round =>
            obtain ⟨i, v, hi, rfl, hF, rG, rP, ⟨bm, rM⟩, rF, rB, rN⟩ := hrel
            clear RP RM RF HF3 HB3
            by_cases hil : i < pcs.length
            · obtain ⟨u, hu⟩ : ∃ u, u = pcs.getD i ⟨#[]⟩ := ⟨_, rfl⟩
              have hj := join_take pcs i hil
              rw [← hu] at hj
              have hsz := joinT_size pcs (i + 1)
              have hpre1 := join_pre pcs (i + 1)
              rw [HP2.out] at hsz hpre1
              have hgood := front_good 1048576 ms HMM.out (joinL (pcs.take (i + 1))).size (by rw [← HS.out]; exact hsz)
              rw [← HS.out, ← hpre1, hj] at hgood
              rw [hj] at hsz
              obtain ⟨pre, hpre⟩ : ∃ pre, pre = joinL (pcs.take i) := ⟨_, rfl⟩
              rw [← hpre] at hF rG hj hsz hgood
              have hpu : (pre ++ u).size = pre.size + u.size := ByteArray.size_append
              obtain ⟨gp, cp', ep, gp1, gp2, -⟩ := Kd.R_form rP (by omega)
              injection ep with ea _ ec
              subst ea
              subst ec
              have hcell := (Kd.R_cell ByteArray.empty rP (i : Int) (by omega) (by omega)).1
              have eu : rdOf ByteArray.empty pcs (i : Int) = u := by rw [hu]; rfl
              rw [eu, Int.toNat_natCast] at hcell
              have hcv := fun V => str_conv u V
              have q0 : (0 : Int) ≤ i := by omega
              have q1 : (i : Int) < pcs.length := by omega
              have hC := str_reads wr u (by omega)
              have hBV := str_below wr u
              have hFV := hF.at hBV
              have rG1 := Kd.R_below rG hBV
              have rP1 := Kd.R_below rP hBV
              have rM1 := Kd.R_below rM hBV
              have rF1 := Kd.R_below rF hBV
              have rB1 : Below w.heap.size w (Lib.bytesWorld wr 5 u) := rB.trans (hBV.mono rB.size)
              have rN1 : N ≤ (Lib.bytesWorld wr 5 u).heap.size := Nat.le_trans rN hBV.size
              have WB : wq.heap.size ≤ (Lib.bytesWorld wr 5 u).heap.size := by have := hFV.mem.lt; omega
              have hle : pre.size + u.size ≤ 16777216 := by omega
              have hcap : u.size ≤ grownCap wr u.size 0 5 := grownCap_ge _ _ _ _
              have HFV := Lib.hid hFV
              have RG1 := Lib.hid rG1
              have RP1 := Lib.hid rP1
              have RM1 := Lib.hid rM1
              have RF1 := Lib.hid rF1
              have RB1 := Lib.hid rB1
              have HC2 := Lib.hid hC
              have HJ := Lib.hid hj
              have HPU := Lib.hid hpu
              have HSZ := Lib.hid hsz
              have HGD := Lib.hid hgood
              have HPRE := Lib.hid hpre
              clear hu eu hF rG rP rM rF rB hC hBV hFV rG1 rP1 rM1 rF1 rB1 hj hpu hsz hpre hgood hpre1
              go_wp2_with fail
              refine (Feed_pre _ wq.heap.size g v 1048576 pre u _ _ HFV.out HC2.out hcap WB hle).mono ?_
              rintro en w5 ⟨v0, v', m, rfl, hm, hRm, hF5, ho, hT⟩
              rw [HGD.out]
              obtain ⟨Am2, cm2, rfl, qm, hCm⟩ := Kd.R_reads hRm
              have rG5 := hT.over HFV.out RG1.out (by decide)
              have rP5 := hT.over HFV.out RP1.out (by decide)
              have rM5 := hT.over HFV.out RM1.out (by decide)
              have rF5 := hT.over HFV.out RF1.out (by decide)
              have rB5 := hT.base HFV.out RB1.out RB1.out.size gN zz
              have rN5 : N ≤ w5.heap.size := Nat.le_trans rN1 hT.size
              obtain ⟨Ag, cg, rfl⟩ := Kd.R_slice rG5
              have hcnt := cut_count 1048576 (pre ++ u) ((pre ++ u).size + 1) 0 (Nat.zero_le _) (by omega)
              rw [hm, HPU.out, List.length_append] at hcnt
              have hlen : ((cutAt 1048576 pre 0).1.length + m.length) * 16 ≤ 140737488355328 := by omega
              have HM := Lib.hid hm
              clear HFV RG1 RP1 RM1 RF1 RB1 HC2 hT hRm hm rN1 hcnt hcell hcv
              go_upto_region 27 with fail
              go_wp2_with (at_builtin; go_must (refine Kd.R_append_row (w0 := w5) Value.string ByteArray.empty N rfl (.tmp 76) (.tmp 77) 22 9 (.string ⟨#[]⟩) 16 rfl Try.underlying22 info_str rfl (by decide) (.slice Ag (cutAt 1048576 pre 0).1.length cg) (cutAt 1048576 pre 0).1 m Am2 m.length cm2 (fun _ => True) rfl rfl (fun _ _ => trivial) rG5 hCm (Below.refl _ _) rN5 hlen ?_); intro v6 w6 hR6 hb6 hg6 hat6)
              have hb := fun q hq => ((Kd.R_bound rG5).1 q hq).2.1
              have rF6 := FrAt.grown hF5 rG5 (by decide) (by decide) hg6
              have rP6 := Kd.R_grown rP5 hg6 (fun q hq e => by have := hb q e.symm; omega)
              have rM6 := Kd.R_grown rM5 hg6 (fun q hq e => by have := hb q e.symm; omega)
              have rFF6 := Kd.R_grown rF5 hg6 (fun q hq e => by have := hb q e.symm; omega)
              have rB6 : Below w.heap.size w w6 := rB5.grown hg6 rB5.size (fun q hq => by have := hb q hq; omega)
              have rN6 : N ≤ w6.heap.size := Nat.le_trans rN5 hg6.size
              clear rG5 rP5 rM5 rF5 rB5 hF5 hb hg6 hb6 hat6 hCm ho
              go_roundw
              case rel =>
                refine ⟨i + 1, v', by omega, by go_num, ?_, ?_, rP6, ⟨bm, rM6⟩, rFF6, rB6, rN6⟩
                · rw [HJ.out]; exact rF6
                · rw [HJ.out, HM.out]; exact hR6
              case measure => simp [intOf]; omega
            · obtain rfl : i = pcs.length := by omega
              have hcut := cut_msgs 1048576 ⟨#[]⟩ ms HMM.out
              have c0 : cutAt 1048576 ⟨#[]⟩ 0 = ([], 0, 0) := cutAt_end (Nat.le_refl _)
              rw [c0, app_nil, ← HS.out] at hcut
              simp only [List.append_nil, Int.add_zero] at hcut
              rw [List.take_length, HP2.out] at rG hF
              have hk : keptS S (ms, (S.size : Int), 0) = ⟨#[]⟩ := by
                unfold keptS
                rw [if_pos rfl]
                apply ByteArray.ext
                simp
              rw [hcut] at rG
              have hH : ∀ nd : Nat, Calls Try.prog 9 #[.pointer (some ⟨g, 0, none⟩)] (wr.drewN nd) fun en w' => en = .returned (.int .i64 0) ∧ wr.drewN nd = w' := by
                intro nd
                have h1 := Held_st (wr.drewN nd) wq.heap.size g v 1048576 S (hF.at (pw_below_drewN (Below.refl _ _) nd))
                rw [hcut, hk] at h1
                exact h1
              obtain ⟨Ag, cg, rfl⟩ := Kd.R_slice rG
              have hml1 : ms.length ≤ 1000000000 := by rw [HML.out]; omega
              have hsm := rostertop_sameTexts.calls _ Ag cg ms Am cm ms true wr (Kd.R_reads' rG).2.2 (Kd.R_reads' rG).2.1 (Kd.R_reads' rM).2.2 (Kd.R_reads' rM).2.1 (tsame_f ms hml1)
              have HSM := Lib.hid hsm
              have HH := Lib.hid hH
              have RG := Lib.hid rG
              have RF := Lib.hid rF
              have HB := Lib.hid rB
              clear hsm hH rG rF rB rM rP hF hcut c0 hk hi hil
              go_wp2_with fail
              refine HSM.out.mono ?_
              rintro en w7 ⟨rfl, nd, rfl⟩
              go_wp2_with fail
              refine (HH.out nd).mono ?_
              rintro en w8 ⟨rfl, rfl⟩
              have rG7 := Kd.R_drewN RG.out nd
              have rF7 := Kd.R_drewN RF.out nd
              have B7 : Below w.heap.size w (wr.drewN nd) := below_draws HB.out nd
              clear HSM HH RG RF HB
              generalize wr.drewN nd = w9 at rG7 rF7 B7 ⊢
              have RG := Lib.hid rG7
              have RF := Lib.hid rF7
              have HB := Lib.hid B7
              clear rG7 rF7 B7
              go_wp2_with fail
              go_loopw [91] (fun vi wr => ∃ k : Nat, k ≤ ms.length ∧ vi = .int .i64 k ∧ Kd.R Kd.string 9 wr N (fun _ => True) (.slice Ag ms.length cg) ms ∧ Kd.R Kd.string 9 wr w.heap.size (fun q => q < N) (.slice Af fit.length cf') fit ∧ Below w.heap.size w wr)
                (fun i _ => ms.length - (intOf i).toNat)
              case atStart => exact ⟨0, Nat.zero_le _, rfl, RG.out, RF.out, HB.out⟩
              case round =>
                obtain ⟨k, hk, rfl, rG, rF, rB⟩ := hrel
                clear RG RF HB
                by_cases hkl : k < ms.length
                · obtain ⟨ad, eA, x0⟩ := str_at (Kd.R_reads' rG).2.2 k hkl
                  have hkf : k < fit.length := by rw [← HML.out]; exact hkl
                  obtain ⟨b, hb⟩ : ∃ b, b = fit.getD k ⟨#[]⟩ := ⟨_, rfl⟩
                  have hbs : b.size ≤ 1000000 := by
                    refine HFS.out b ?_
                    rw [hb, List.getD_eq_getElem?_getD, List.getElem?_eq_getElem hkf]
                    exact List.getElem_mem _
                  have hm : ms.getD k ⟨#[]⟩ = msgN b := by
                    rw [HMS.out, hb, List.getD_eq_getElem?_getD, List.getD_eq_getElem?_getD, List.getElem?_map, List.getElem?_eq_getElem hkf]
                    rfl
                  rw [hm] at x0
                  have htr := msg_tree b (by omega)
                  have hts := msg_size b hbs
                  have hTR := Tree_any (msgN b) wr (by omega)
                  rw [htr] at hTR
                  have hint := (int_put (b.size : Int) (by omega) (by omega)).1
                  have HT := Lib.hid hTR
                  have HI := Lib.hid hint
                  have HBB := Lib.hid hb
                  have RG := Lib.hid rG
                  have RF := Lib.hid rF
                  have HB := Lib.hid rB
                  have q0 : (0 : Int) ≤ k := by omega
                  have q1 : (k : Int) < ms.length := by omega
                  have q2 : (k : Int) < fit.length := by omega
                  have eA2 := Lib.hid eA
                  subst eA
                  clear hb hm htr hTR hint rG rF rB eA2
                  go_wp2_with fail
                  refine HT.out.mono ?_
                  rintro en w8 ⟨v0, rfl, hRt, hBt⟩
                  have h3 : (nodesN b).length = 3 := rfl
                  obtain ⟨gt, ct, rfl, -, -, -⟩ := Kd.R_form hRt (by rw [h3]; omega)
                  have hCt := (Kd.R_reads' hRt).2.2
                  obtain ⟨ad0, e0, a0, a1, a2, a3, a4⟩ := node_at hCt 0 (by rw [h3]; omega)
                  obtain ⟨ad1, e1, b0, b1, b2, b3, b4⟩ := node_at hCt 1 (by rw [h3]; omega)
                  obtain ⟨ad2, e2, c0, c1, c2, c3, c4⟩ := node_at hCt 2 (by rw [h3]; omega)
                  injection e0 with e0
                  injection e1 with e1
                  injection e2 with e2
                  subst e0 e1 e2
                  have n0 : w8.cell? ⟨gt, 0, none⟩ = some (.int .i64 1) := a0
                  have n2 : w8.cell? ⟨gt, 2, none⟩ = some (.bool true) := a2
                  have n5 : w8.cell? ⟨gt, 5, none⟩ = some (.int .i64 2) := b0
                  have n9 : w8.cell? ⟨gt, 9, none⟩ = some (.string b) := b4
                  have n14 : w8.cell? ⟨gt, 14, none⟩ = some (.string (putS b.size)) := c4
                  have rG8 := Kd.R_below RG.out hBt
                  have rF8 := Kd.R_below RF.out hBt
                  have B8 : Below w.heap.size w w8 := HB.out.trans (hBt.mono HB.out.size)
                  obtain ⟨adf, eF, f0⟩ := str_at (Kd.R_reads' rF8).2.2 k hkf
                  rw [← HBB.out] at f0
                  have HF8 := Lib.hid rF8
                  have HG8 := Lib.hid rG8
                  have HB8 := Lib.hid B8
                  rw [h3]
                  clear a0 a1 a2 a3 a4 b0 b1 b2 b3 b4 c0 c1 c2 c3 c4 rG8 rF8 B8 hRt hBt hCt RG RF HB HT x0 h3
                  subst eF
                  go_wp2_with fail
                  go_quiet (fail)
                  have rG9 := Kd.R_drewN HG8.out nq
                  have rF9 := Kd.R_drewN HF8.out nq
                  have B9 : Below w.heap.size w (w8.drewN nq) := below_draws HB8.out nq
                  have HG9 := Lib.hid rG9
                  have HF9 := Lib.hid rF9
                  have HB9 := Lib.hid B9
                  clear rG9 rF9 B9 HG8 HF8 HB8
                  go_wp2_with fail
                  have hint := Int_any (putS b.size) (w8.drewN nq)
                  rw [HI.out] at hint
                  refine hint.mono ?_
                  rintro en w10 ⟨rfl, hB10⟩
                  have f10 : w10.cell? (adf.add k) = some (.string b) := (hB10.cell (p := adf.add k) (World.block_lt_of_cell? _ _ f0)).trans f0
                  have rG10 := Kd.R_below HG9.out hB10
                  have rF10 := Kd.R_below HF9.out hB10
                  have B10 : Below w.heap.size w w10 := HB9.out.trans (hB10.mono HB9.out.size)
                  have HG10 := Lib.hid rG10
                  have HF10 := Lib.hid rF10
                  have HB10 := Lib.hid B10
                  unfold intV
                  clear rG10 rF10 B10 HG9 HF9 HB9 hB10 f0 n0 n2 n5 n9 n14 hint
                  go_wp2_with fail
                  go_roundw
                  case rel => exact ⟨k + 1, by omega, by go_num, HG10.out, HF10.out, HB10.out⟩
                  case measure => simp [intOf]; omega
                · obtain rfl : k = ms.length := by omega
                  have t1 : ((ms.length : Int) == fit.length) = true := by rw [HML.out]; simp
                  have t2 : (ms.length == fit.length) = true := by rw [HML.out]; simp
                  have hnd := fun V => fneed_any 1048576 ⟨#[]⟩ V (by decide)
                  have en : needS 1048576 ⟨#[]⟩ = 2 := rfl
                  rw [en] at hnd
                  have RB := Lib.hid rB
                  clear rG rF rB
                  go_wp2_with fail
                  refine (hnd wr).mono ?_
                  rintro en w11 ⟨rfl, hb11⟩
                  go_wp2_with fail
                  go_ret
                  exact ⟨rfl, RB.out.trans (hb11.mono RB.out.size)⟩
end Go.Proofs.Ytbgmnfkfbiemaaa.W
