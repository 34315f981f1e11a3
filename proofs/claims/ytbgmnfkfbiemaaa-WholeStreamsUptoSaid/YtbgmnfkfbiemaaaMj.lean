/- Texts of this session in one: BLs, BJo, El2, Wr -/
import Derived.Test.YtbgmnfkfbiemaaaMa
import Derived.Test.YtbgmnfkfbiemaaaGAx1
import Derived.Test.YtbgmnfkfbiemaaaBCa
import Derived.Test.YtbgmnfkfbiemaaaGAx1
/-! ## Plain law of an element's bytes: the first byte, the length in its shortest form, the content. -/
namespace Go.Proofs.Ytbgmnfkfbiemaaa.W
open Go.RowKit Go.Proofs.Ytbgmnfkfbiemaaa.GA Go.Proofs.YtbgmnfkfbiemaaaW.PrintWords Go.Proofs.YtbgmnfkfbiemaaaW.PrintMore
set_option linter.unusedVariables false
set_option linter.unusedSimpArgs false

/-- A length's bytes in the shortest form. -/
def lenNums (n : Int) : List Int :=
  if n < 128 then [n] else if n < 256 then [129, n] else if n < 65536 then [130, n / 256, n % 256]
  else if n < 16777216 then [131, n / 65536, n / 256 % 256, n % 256] else [132, n / 16777216, n / 65536 % 256, n / 256 % 256, n % 256]
def firstOf (cls : Int) (made : Bool) (tag : Int) : Int :=
  if made = true then bits .or .u8 (bits .or .u8 (((cls % 256) * 64) % 256) (tag % 256)) 32 else bits .or .u8 (((cls % 256) * 64) % 256) (tag % 256)
/-- The bytes of an element with that class, form, tag and content. -/
def layS (cls : Int) (made : Bool) (tag : Int) (body : ByteArray) : ByteArray := strOfNums (firstOf cls made tag :: lenNums body.size) ++ body

theorem first_fin : ∀ (c : Fin 4) (t : Fin 31), bits .or .u8 ((((c.val : Int) % 256) * 64) % 256) ((t.val : Int) % 256) = (c.val : Int) * 64 + t.val ∧
    bits .or .u8 (bits .or .u8 ((((c.val : Int) % 256) * 64) % 256) ((t.val : Int) % 256)) 32 = (c.val : Int) * 64 + t.val + 32 := by decide +kernel
theorem first_eq {cls tag : Int} {made : Bool} (h0 : 0 ≤ cls) (h1 : cls ≤ 3) (h2 : 0 ≤ tag) (h3 : tag < 31) : firstOf cls made tag = cls * 64 + tag + (if made = true then 32 else 0) := by
  have h := first_fin ⟨cls.toNat, by omega⟩ ⟨tag.toNat, by omega⟩
  have e1 : ((cls.toNat : Nat) : Int) = cls := by omega
  have e2 : ((tag.toNat : Nat) : Int) = tag := by omega
  simp only [e1, e2] at h
  unfold firstOf
  cases made with
  | true => simp only [if_true]; exact h.2
  | false => simp only [Bool.false_eq_true, if_false]; rw [h.1]; omega

theorem lenNums_len (n : Int) : 1 ≤ (lenNums n).length ∧ (lenNums n).length ≤ 5 := by
  unfold lenNums
  repeat' split
  all_goals simp
theorem shr8 (n : Int) (c : Int) (h : wrap64 (8 * c) = 8 * c) (k : Nat) (hk : (8 * c).toNat = k) (hk2 : k ≤ 64) : shr .i64 n (wrap64 (8 * c)) = n / 2 ^ k := by
  unfold shr
  rw [h, hk, Nat.min_eq_left (by simpa [IntKind.bits] using hk2)]
theorem length_f (n : Int) (h0 : 0 ≤ n) (h1 : n ≤ 4294967295) : ber_length.f 7 n = some (lenNums n) := by
  have w8 : wrap64 (8 * 1) = 8 := by unfold wrap64; omega
  have s1 : shr .i64 n 8 = n / 256 := by unfold shr; rfl
  have s2 : shr .i64 n 16 = n / 65536 := by unfold shr; rfl
  have s3 : shr .i64 n 24 = n / 16777216 := by unfold shr; rfl
  have w16 : wrap64 (8 * 2) = 16 := by unfold wrap64; omega
  have w24 : wrap64 (8 * 3) = 24 := by unfold wrap64; omega
  have w2 : wrap64 (1 + 1) = 2 := by unfold wrap64; omega
  have w3 : wrap64 (2 + 1) = 3 := by unfold wrap64; omega
  have w4 : wrap64 (3 + 1) = 4 := by unfold wrap64; omega
  have a1 : wrap64 (128 + 1) % 256 = 129 := by unfold wrap64; omega
  have a2 : wrap64 (128 + 2) % 256 = 130 := by unfold wrap64; omega
  have a3 : wrap64 (128 + 3) % 256 = 131 := by unfold wrap64; omega
  have a4 : wrap64 (128 + 4) % 256 = 132 := by unfold wrap64; omega
  unfold ber_length.f lenNums
  by_cases c0 : n < 128
  · rw [if_pos c0, if_pos c0, Int.emod_eq_of_lt h0 (by omega)]
  rw [if_neg c0, if_neg c0]
  simp only [ber_length.l0, w8, s1]
  rw [if_pos (by omega), if_pos (by omega)]
  by_cases c1 : n < 256
  · rw [if_neg (by omega), if_pos c1]
    simp only [ber_length.j1, a1, Option.bind_some]
    rw [if_neg (by omega), if_neg (by omega), if_neg (by omega), if_pos (by simp)]
    simp
    omega
  rw [if_pos (by omega), if_neg c1]
  simp only [w2, w16, s2]
  rw [if_pos (by omega), if_pos (by omega)]
  by_cases c2 : n < 65536
  · rw [if_neg (by omega), if_pos c2]
    simp only [ber_length.j1, a2, Option.bind_some]
    rw [if_neg (by omega), if_neg (by omega), if_pos (by trivial), if_pos (by simp), if_pos (by simp)]
    simp
    omega
  rw [if_pos (by omega), if_neg c2]
  simp only [w3, w24, s3]
  rw [if_pos (by omega), if_pos (by omega)]
  by_cases c3 : n < 16777216
  · rw [if_neg (by omega), if_pos c3]
    simp only [ber_length.j1, a3, Option.bind_some]
    rw [if_neg (by omega), if_pos (by trivial), if_pos (by simp), if_pos (by simp), if_pos (by simp)]
    simp
    omega
  rw [if_pos (by omega), if_neg c3]
  simp only [w4]
  rw [if_neg (by omega)]
  simp only [ber_length.j1, a4, Option.bind_some]
  rw [if_pos (by trivial), if_pos (by simp), if_pos (by simp), if_pos (by simp), if_pos (by simp)]
  simp
  omega
theorem strOfNums_size (l : List Int) : (strOfNums l).size = l.length := by
  show (l.map fun n => UInt8.ofNat n.toNat).toArray.size = _
  simp
theorem lay_f (cls : Int) (made : Bool) (tag : Int) (body : ByteArray) (hb : body.size ≤ 4294967295) : ber_lay.f 7 cls made tag body = some (layS cls made tag body) := by
  unfold ber_lay.f layS firstOf
  have hl := lenNums_len body.size
  rw [if_neg (by omega), length_f _ (by omega) (by omega)]
  cases made with
  | true =>
    simp only [if_true, Option.bind_some, List.singleton_append, List.length_singleton]
    rw [if_pos (by omega), strOfNums_size]
    simp only [List.length_cons]
    rw [if_pos (by omega)]
  | false =>
    simp only [Bool.false_eq_true, if_false, Option.bind_some, List.singleton_append, List.length_singleton]
    rw [if_pos (by omega), strOfNums_size]
    simp only [List.length_cons]
    rw [if_pos (by omega)]
end Go.Proofs.Ytbgmnfkfbiemaaa.W

/-! ## Walks of ber.lay and ber.Join: an element's bytes in the shortest form, or the error. -/
namespace Go.Proofs.Ytbgmnfkfbiemaaa.W
open Go.RowKit Go.Proofs.Ytbgmnfkfbiemaaa.GA Go.Proofs.YtbgmnfkfbiemaaaW.PrintWords Go.Proofs.YtbgmnfkfbiemaaaW.PrintMore
set_option linter.unusedVariables false
set_option linter.unusedSimpArgs false

theorem lay_any (cls : Int) (made : Bool) (tag : Int) (body : ByteArray) (w : World) (hb : body.size ≤ 4294967295) :
    Calls Try.prog 31 #[.int .i64 cls, .bool made, .int .i64 tag, .string body] w fun en w' => en = .returned (.string (layS cls made tag body)) ∧ Below w.heap.size w w' :=
  ber_lay.calls 7 cls made tag body _ w (lay_f cls made tag body hb)
theorem lay_big (cls : Int) (made : Bool) (tag : Int) (body : ByteArray) (w : World) (hb : (4294967295 : Int) < body.size) :
    Calls Try.prog 31 #[.int .i64 cls, .bool made, .int .i64 tag, .string body] w fun en w' => en = .panicked [{ v := .iface 61 (.agg #[.int .i64 24, .int .i64 0]), recovered := false }] ∧ w = w' := by
  go_enter Try.func31, Try.ntmps31
  go_wp2
  exact ⟨rfl, rfl, rfl⟩
/-- May class and tag be written? -/
def namedB (cls tag : Int) : Bool := decide (0 ≤ cls ∧ cls ≤ 3 ∧ 0 ≤ tag ∧ tag < 31)
theorem named_any (cls tag : Int) (w : World) : Calls Try.prog 30 #[.int .i64 cls, .int .i64 tag] w fun en w' => en = .returned (.bool (namedB cls tag)) ∧ Drawn0 w w' := by
  refine ber_named.calls cls tag _ w ?_
  unfold ber_named.f namedB
  by_cases h0 : cls ≥ 0
  · rw [if_pos h0]
    by_cases h1 : cls ≤ 3
    · rw [if_pos h1]
      by_cases h2 : tag ≥ 0
      · rw [if_pos h2]
        congr 1
        rw [decide_eq_decide]
        omega
      · rw [if_neg h2]
        congr 1
        rw [eq_comm, decide_eq_false_iff_not]
        omega
    · rw [if_neg h1]
      congr 1
      rw [eq_comm, decide_eq_false_iff_not]
      omega
  · rw [if_neg h0]
    congr 1
    rw [eq_comm, decide_eq_false_iff_not]
    omega

/-- What Join answers. -/
def joinR (cls : Int) (made : Bool) (tag : Int) (body : ByteArray) : ByteArray × Int :=
  if namedB cls tag = true then (if body.size ≤ 4294967295 then (layS cls made tag body, 0) else (⟨#[]⟩, 24)) else (⟨#[]⟩, 28)

end Go.Proofs.Ytbgmnfkfbiemaaa.W

/-! ## Plain law: the shortest form of an element's bytes, as numbers. -/
namespace Go.Proofs.Ytbgmnfkfbiemaaa.W
open Go.RowKit Go.Proofs.YtbgmnfkfbiemaaaW.PrintWords Go.Proofs.YtbgmnfkfbiemaaaW.PrintMore
set_option linter.unusedVariables false
set_option linter.unusedSimpArgs false

/-- How many bytes a length takes behind its length byte, in the shortest form. -/
def wideK (n : Int) : Nat := if n < 128 then 0 else if n < 256 then 1 else if n < 65536 then 2 else if n < 16777216 then 3 else 4
theorem wide_ok {n : Int} (h0 : 0 ≤ n) (h1 : n ≤ 4294967295) : okForm n (wideK n) := by
  unfold wideK okForm
  split
  · left; omega
  split
  · right; refine ⟨by omega, by omega, ?_⟩; simpa using (by omega : n < 256)
  split
  · right; exact ⟨by omega, by omega, by simp; omega⟩
  split
  · right; exact ⟨by omega, by omega, by simp; omega⟩
  · right; exact ⟨by omega, by omega, by simp; omega⟩
theorem lenNums_eq {n : Int} (h0 : 0 ≤ n) (h1 : n ≤ 4294967295) : lenNums n = lenB n (wideK n) := by
  unfold lenNums wideK lenB
  by_cases c0 : n < 128
  · rw [if_pos c0, if_pos c0, if_pos rfl]
  rw [if_neg c0, if_neg c0]
  by_cases c1 : n < 256
  · rw [if_pos c1, if_pos c1, if_neg (by omega)]
    simp only [be, List.nil_append]
    rw [Int.emod_eq_of_lt h0 c1]
    rfl
  rw [if_neg c1, if_neg c1]
  by_cases c2 : n < 65536
  · rw [if_pos c2, if_pos c2, if_neg (by omega)]
    simp only [be, List.nil_append]
    rw [Int.emod_eq_of_lt (a := n / 256) (by omega) (by omega)]
    rfl
  rw [if_neg c2, if_neg c2]
  by_cases c3 : n < 16777216
  · rw [if_pos c3, if_pos c3, if_neg (by omega)]
    simp only [be, List.nil_append]
    have e1 : n / 256 / 256 = n / 65536 := by omega
    rw [e1, Int.emod_eq_of_lt (a := n / 65536) (by omega) (by omega)]
    rfl
  · rw [if_neg c3, if_neg c3, if_neg (by omega)]
    simp only [be, List.nil_append]
    have e1 : n / 256 / 256 = n / 65536 := by omega
    have e2 : n / 65536 / 256 = n / 16777216 := by omega
    rw [e1, e2, Int.emod_eq_of_lt (a := n / 16777216) (by omega) (by omega)]
    rfl
theorem bytesOf_append (a b : ByteArray) : bytesOf (a ++ b) = bytesOf a ++ bytesOf b := by
  unfold bytesOf
  rw [← List.map_append]
  simp
theorem bytesOf_str (L : List Int) (h : ∀ x ∈ L, 0 ≤ x ∧ x < 256) : bytesOf (strOfNums L) = L := by
  unfold bytesOf
  show (L.map fun n => UInt8.ofNat n.toNat).toArray.toList.map (fun b => (b.toNat : Int)) = L
  rw [List.map_map]
  induction L with
  | nil => rfl
  | cons x L ih =>
    have hx := h x (by simp)
    rw [List.map_cons, ih (fun y hy => h y (by simp [hy]))]
    congr 1
    simp only [Function.comp]
    rw [UInt8.toNat_ofNat']
    omega
theorem be_range (k : Nat) : ∀ n, ∀ x ∈ be n k, 0 ≤ x ∧ x < 256 := by
  induction k with
  | zero => intro n x h; simp [be] at h
  | succ k ih =>
    intro n x h
    rw [be, List.mem_append, List.mem_singleton] at h
    rcases h with h | rfl
    · exact ih _ x h
    · omega
theorem headB_range {cls tag n : Int} {made : Bool} {k : Nat} (h : okN cls tag) (hf : okForm n k) (n0 : 0 ≤ n) : ∀ x ∈ headB cls made tag n k, 0 ≤ x ∧ x < 256 := by
  obtain ⟨c0, c1, t0, t1⟩ := h
  intro x hx
  unfold headB lenB at hx
  rcases List.mem_cons.1 hx with rfl | hx
  · split <;> omega
  · by_cases c : k = 0
    · rw [if_pos c] at hx
      rcases hf with hf | hf
      · simp at hx; omega
      · omega
    · rw [if_neg c] at hx
      rcases List.mem_cons.1 hx with rfl | hx
      · rcases hf with hf | hf <;> omega
      · exact be_range k n x hx
theorem lay_bytes {cls tag : Int} {made : Bool} {body : ByteArray} (h : okN cls tag) (hb : body.size ≤ 4294967295) : bytesOf (layS cls made tag body) = headB cls made tag body.size (wideK body.size) ++ bytesOf body := by
  obtain ⟨c0, c1, t0, t1⟩ := h
  unfold layS
  have e : firstOf cls made tag :: lenNums body.size = headB cls made tag body.size (wideK body.size) := by
    rw [first_eq c0 c1 t0 (by omega), lenNums_eq (by omega) (by omega)]
    rfl
  rw [bytesOf_append, e, bytesOf_str _ (headB_range ⟨c0, c1, t0, t1⟩ (wide_ok (by omega) (by omega)) (by omega))]
theorem lay_size (cls : Int) (made : Bool) (tag : Int) (body : ByteArray) : (layS cls made tag body).size ≤ body.size + 6 := by
  have := lenNums_len body.size
  unfold layS
  rw [ByteArray.size_append, strOfNums_size, List.length_cons]
  omega
theorem has_self (s : ByteArray) : Has s 0 (bytesOf s) := by
  refine ⟨by omega, by rw [bytesOf_length]; omega, fun j hj => ?_⟩
  rw [bytesOf_length] at hj
  rw [Int.zero_add, ← getD_byt]
  unfold bytesOf
  have hl : j < s.data.toList.length := by rw [data_length]; exact hj
  rw [List.getD_eq_getElem?_getD, List.getD_eq_getElem?_getD, List.getElem?_map, List.getElem?_eq_getElem hl]
  rfl
theorem has_of {s : ByteArray} {L : List Int} (h : bytesOf s = L) : Has s 0 L := h ▸ has_self s
end Go.Proofs.Ytbgmnfkfbiemaaa.W

/-! ## Plain law of ber.Write (no program in sight): a tree laid down node by node. -/
namespace Go.Proofs.Ytbgmnfkfbiemaaa.W
open Go.RowKit Go.Proofs.YtbgmnfkfbiemaaaW.PrintWords
set_option linter.unusedVariables false
set_option linter.unusedSimpArgs false

def zN : NodeT := (0, 0, false, 0, ⟨#[]⟩)
def nd (xs : List NodeT) (i : Nat) : NodeT := xs.getD i zN
mutual
/-- The bytes of the element at node i, and the place of the node behind it. -/
def wrE (xs : List NodeT) : Nat → Nat → ByteArray × Nat
  | 0, i => (⟨#[]⟩, i)
  | f + 1, i => if (nd xs i).2.2.1 = true then (layS (nd xs i).2.1 true (nd xs i).2.2.2.1 (wrK xs f (i + 1) (nd xs i).1 ⟨#[]⟩).1, (wrK xs f (i + 1) (nd xs i).1 ⟨#[]⟩).2)
    else (layS (nd xs i).2.1 false (nd xs i).2.2.2.1 (nd xs i).2.2.2.2, i + 1)
/-- Those inside a node of depth d, from node i on, behind what is there. -/
def wrK (xs : List NodeT) : Nat → Nat → Int → ByteArray → ByteArray × Nat
  | 0, i, _, b => (b, i)
  | f + 1, i, d, b => if i < xs.length ∧ d < (nd xs i).1 then wrK xs f (wrE xs f i).2 d (b ++ (wrE xs f i).1) else (b, i)
end
/-- What the nodes from i up to j weigh. -/
def wt (xs : List NodeT) (i j : Nat) : Nat := (((xs.take j).drop i).map fun x => x.2.2.2.2.size + 6).sum
theorem wt_split (xs : List NodeT) {i j k : Nat} (h1 : i ≤ j) (h2 : j ≤ k) : wt xs i k = wt xs i j + wt xs j k := by
  unfold wt
  rw [← List.sum_append, ← List.map_append]
  congr 2
  have e : xs.take j = (xs.take k).take j := by rw [List.take_take, Nat.min_eq_left h2]
  rw [e]
  have : (xs.take k).drop j = ((xs.take k).drop i).drop (j - i) := by rw [List.drop_drop]; congr 1; omega
  rw [this]
  have h3 : ((xs.take k).take j).drop i = ((xs.take k).drop i).take (j - i) := by rw [List.drop_take]
  rw [h3, List.take_append_drop]
theorem wt_one (xs : List NodeT) {i : Nat} (h : i < xs.length) : wt xs i (i + 1) = (nd xs i).2.2.2.2.size + 6 := by
  unfold wt nd
  rw [List.take_succ_eq_append_getElem h, List.drop_append_of_le_length (by simp; omega)]
  have : (xs.take i).drop i = [] := by simp
  rw [this]
  simp [h]
theorem wt_le (xs : List NodeT) {i j : Nat} (h : i ≤ j) : wt xs 0 i ≤ wt xs 0 j := by rw [wt_split xs (Nat.zero_le _) h]; omega
theorem wt_all (xs : List NodeT) (j : Nat) : wt xs 0 j ≤ wt xs 0 xs.length := by
  by_cases h : j ≤ xs.length
  · exact wt_le xs h
  · unfold wt
    rw [List.take_of_length_le (by omega), List.take_of_length_le (Nat.le_refl _)]
    exact Nat.le_refl _
/-- No more bytes than the nodes weigh; the places go on. -/
theorem wr_size (xs : List NodeT) (hm : ∀ i, (nd xs i).2.2.1 = true → (nd xs i).2.2.2.2.size = 0) : ∀ f : Nat,
    (∀ i, i < xs.length → i ≤ (wrE xs f i).2 ∧ (wrE xs f i).2 ≤ xs.length ∧ (wrE xs f i).1.size ≤ wt xs i (wrE xs f i).2) ∧
    (∀ i d b, i ≤ xs.length → i ≤ (wrK xs f i d b).2 ∧ (wrK xs f i d b).2 ≤ xs.length ∧ (wrK xs f i d b).1.size ≤ b.size + wt xs i (wrK xs f i d b).2)
  | 0 => ⟨fun i h => ⟨Nat.le_refl _, by rw [wrE]; omega, by rw [wrE]; exact Nat.zero_le _⟩, fun i d b h => ⟨Nat.le_refl _, by rw [wrK]; exact h, by rw [wrK]; exact Nat.le_add_right _ _⟩⟩
  | f + 1 => by
    obtain ⟨ih1, ih2⟩ := wr_size xs hm f
    refine ⟨fun i h => ?_, fun i d b h => ?_⟩
    · rw [wrE]
      split
      · rename_i hmd
        have hk := ih2 (i + 1) (nd xs i).1 ⟨#[]⟩ h
        have hl := lay_size (nd xs i).2.1 true (nd xs i).2.2.2.1 (wrK xs f (i + 1) (nd xs i).1 ⟨#[]⟩).1
        have h1 := wt_one xs h
        have h2 := wt_split xs (i := i) (j := i + 1) (k := (wrK xs f (i + 1) (nd xs i).1 ⟨#[]⟩).2) (by omega) hk.1
        have hz : (⟨#[]⟩ : ByteArray).size = 0 := rfl
        rw [hz] at hk
        simp only
        omega
      · have hl := lay_size (nd xs i).2.1 false (nd xs i).2.2.2.1 (nd xs i).2.2.2.2
        have h1 := wt_one xs h
        simp only
        omega
    · rw [wrK]
      split
      · rename_i hc
        have h1 := ih1 i hc.1
        have h2 := ih2 (wrE xs f i).2 d (b ++ (wrE xs f i).1) h1.2.1
        rw [ByteArray.size_append] at h2
        have h3 := wt_split xs (i := i) (j := (wrE xs f i).2) (k := (wrK xs f (wrE xs f i).2 d (b ++ (wrE xs f i).1)).2) h1.1 h2.1
        omega
      · simp only
        omega
/-- The element at i ends behind it, if it has rounds. -/
theorem wrE_gt (xs : List NodeT) (f i : Nat) : i < (wrE xs (f + 1) i).2 := by
  have hk : ∀ f i d b, i ≤ (wrK xs f i d b).2 := by
    intro f
    induction f using Nat.strongRecOn with
    | _ f ih =>
      intro i d b
      cases f with
      | zero => rw [wrK]; exact Nat.le_refl _
      | succ f =>
        rw [wrK]
        split
        · refine Nat.le_trans ?_ (ih f (by omega) _ _ _)
          cases f with
          | zero => rw [wrE]; exact Nat.le_refl _
          | succ f =>
            rw [wrE]
            split
            · exact Nat.le_trans (by omega) (ih f (by omega) (i + 1) _ _)
            · simp
        · exact Nat.le_refl _
  rw [wrE]
  split
  · exact Nat.lt_of_lt_of_le (Nat.lt_succ_self i) (hk f (i + 1) _ _)
  · simp
/-- One node may stand behind another: told of the one ahead (none: it is the first). -/
def follB (b : Option (Int × Bool)) (n : NodeT) : Bool :=
  namedB n.2.1 n.2.2.2.1 && !(n.2.2.1 && decide (n.2.2.2.2.size ≠ 0)) && match b with
    | none => decide (n.1 = 1)
    | some (d, m) => decide (2 ≤ n.1) && decide (n.1 ≤ if m = true then d + 1 else d)
def prevOf (xs : List NodeT) (i : Nat) : Option (Int × Bool) := if i = 0 then none else some ((nd xs (i - 1)).1, (nd xs (i - 1)).2.2.1)
/-- The first node at fault, from node i on, and its error. n: rounds. -/
def badN (xs : List NodeT) : Nat → Nat → Option (Int × Int)
  | 0, _ => none
  | n + 1, i =>
    if i < xs.length then
      if follB (prevOf xs i) (nd xs i) = true then (if 64 < (nd xs i).1 then some (25, (i : Int)) else badN xs n (i + 1))
      else some (28, (i : Int))
    else none
/-- What Write answers of a list that weighs little. -/
def writeS (xs : List NodeT) : ByteArray × Int × Int :=
  if xs.length = 0 then (⟨#[]⟩, 28, 0)
  else match badN xs (xs.length + 1) 0 with
    | some x => (⟨#[]⟩, x.1, x.2)
    | none => ((wrE xs (2 * xs.length + 2) 0).1, 0, 0)
theorem badN_at (xs : List NodeT) : ∀ (n i : Nat), badN xs n i = none → xs.length < n + i → ∀ j, i ≤ j → j < xs.length → follB (prevOf xs j) (nd xs j) = true ∧ (nd xs j).1 ≤ 64 := by
  intro n
  induction n with
  | zero => intro i h hn j hi hj; omega
  | succ n ih =>
    intro i h hn j hi hj
    rw [badN] at h
    rw [if_pos (by omega)] at h
    by_cases c : follB (prevOf xs i) (nd xs i) = true
    · rw [if_pos c] at h
      by_cases c2 : 64 < (nd xs i).1
      · rw [if_pos c2] at h; cases h
      · rw [if_neg c2] at h
        by_cases e : j = i
        · subst e; exact ⟨c, by omega⟩
        · exact ih (i + 1) h (by omega) j (by omega) hj
    · rw [if_neg c] at h; cases h
theorem foll_made {b : Option (Int × Bool)} {n : NodeT} (h : follB b n = true) : namedB n.2.1 n.2.2.2.1 = true ∧ (n.2.2.1 = true → n.2.2.2.2.size = 0) := by
  unfold follB at h
  simp only [Bool.and_eq_true, Bool.not_eq_true', Bool.and_eq_false_iff, decide_eq_false_iff_not] at h
  obtain ⟨⟨h1, h2⟩, _⟩ := h
  refine ⟨h1, fun hm => ?_⟩
  rcases h2 with h2 | h2
  · rw [hm] at h2; cases h2
  · omega
end Go.Proofs.Ytbgmnfkfbiemaaa.W
