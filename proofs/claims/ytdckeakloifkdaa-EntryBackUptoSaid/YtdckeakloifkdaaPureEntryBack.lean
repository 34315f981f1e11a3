/- The statement EntryBack: the plain law, and the form that its row takes. -/
import Derived.Test.YtdckeakloifkdaaTyEntryBack
import Derived.Test.YtdckeakloifkdaaEb5
namespace Go.Proofs.Ytdckeakloifkdaa.Pure
open Go.ChangeShapes Go.WideShapes Go.ChangeAt Go.RowKit Go.Proofs.YtdckeakloifkdaaW.PrintWords Go.Proofs.Ytdckeakloifkdaa.GM
open Go.Proofs.Ytdckeakloifkdaa.W (up zq SPB Q37)
set_option linter.unusedVariables false
set_option linter.unusedSimpArgs false
theorem wr (i : Nat) (h : i ≤ 4294967296) : wrap64 ((i : Int) + 1) = ((i + 1 : Nat) : Int) := by unfold wrap64; omega
theorem rdA (l : List S37) (i : Nat) (h : i < l.length) : rd_T37 l i = l[i] := by simp [rd_T37, h]
theorem rdS (l : List ByteArray) (i : Nat) (h : i < l.length) : rdOf ByteArray.empty l i = l[i] := by simp [rdOf, h]
theorem roomy_f (k : List ByteArray) (h : k.length ≤ 1048576) : rosterlaw08_roomy.f k = some k := by
  unfold rosterlaw08_roomy.f
  rw [Option.bind_some, if_pos (by rw [List.length_nil]; omega), List.nil_append, Option.bind_some, if_pos (by omega), Option.bind_some, if_pos (by omega), if_pos (by rw [List.length_append]; omega), Int.toNat_natCast, List.take_left]
theorem copy_l (l : List S37) (hl : l.length ≤ 1048576) (hx : ∀ a ∈ l, a.f2.length ≤ 1048576) : ∀ (j i k : Nat), i + j = l.length → j < k → W.copyQ.l0 k l ((l.take i).map up) i = some (l.map up ++ [zq]) := by
  intro j
  induction j with
  | zero =>
    intro i k hi hk
    obtain ⟨k, rfl⟩ : ∃ q, k = q + 1 := ⟨k - 1, by omega⟩
    have e : l.take i = l := List.take_of_length_le (by omega)
    rw [W.copyQ.l0, if_neg (by omega), e, if_pos (by rw [List.length_map]; omega), Option.bind_some, if_pos (by omega), if_pos (by rw [List.length_append, List.length_map]; omega)]
  | succ j ih =>
    intro i k hi hk
    obtain ⟨k, rfl⟩ : ∃ q, k = q + 1 := ⟨k - 1, by omega⟩
    have g0 : i < l.length := by omega
    have ht : ((l.take i).map up).length ≤ 1048576 := by rw [List.length_map, List.length_take]; omega
    rw [W.copyQ.l0, if_pos (by omega), if_pos (by omega), rdA l i g0, roomy_f _ (hx _ (List.getElem_mem _)), Option.bind_some, if_pos (by omega), wr i (by omega)]
    have e : (l.take i).map up ++ [(⟨l[i].f0, l[i].f1, some l[i].f2⟩ : Q37)] = (l.take (i + 1)).map up := by
      rw [List.take_succ_eq_append_getElem g0, List.map_append]
      rfl
    rw [e]
    exact ih (i + 1) k (by omega) (by omega)
theorem copy_f (k : Nat) (l : List S37) (hk : 2000000 ≤ k) (hl : l.length ≤ 1048576) (hx : ∀ a ∈ l, a.f2.length ≤ 1048576) : W.copyQ.f k l = some (l.map up ++ [zq]) := by
  unfold W.copyQ.f
  exact copy_l l hl hx l.length 0 k (by omega) (by omega)
theorem texts_l (l : List ByteArray) (hl : l.length ≤ 1048576) : ∀ (j i k : Nat), i + j = l.length → j < k → rosterlaw08_sameTexts.l0 k l l i = some true := by
  intro j
  induction j with
  | zero =>
    intro i k hi hk
    obtain ⟨k, rfl⟩ : ∃ q, k = q + 1 := ⟨k - 1, by omega⟩
    rw [rosterlaw08_sameTexts.l0, if_neg (by omega)]
  | succ j ih =>
    intro i k hi hk
    obtain ⟨k, rfl⟩ : ∃ q, k = q + 1 := ⟨k - 1, by omega⟩
    rw [rosterlaw08_sameTexts.l0, if_pos (by omega), if_pos (by omega), if_pos (by omega), if_pos rfl, wr i (by omega)]
    exact ih (i + 1) k (by omega) (by omega)
theorem texts_f (k : Nat) (l : List ByteArray) (hk : 2000000 ≤ k) (hl : l.length ≤ 1048576) : rosterlaw08_sameTexts.f k l l = some true := by
  unfold rosterlaw08_sameTexts.f
  rw [if_pos rfl]
  exact texts_l l hl l.length 0 k (by omega) (by omega)
theorem attrs_l (l : List S37) (hl : l.length ≤ 1048576) (hx : ∀ a ∈ l, a.f2.length ≤ 1048576) : ∀ (j i k : Nat), i + j = l.length → j + 2000000 < k → rosterlaw08_sameAttrs.l0 k l l i = some true := by
  intro j
  induction j with
  | zero =>
    intro i k hi hk
    obtain ⟨k, rfl⟩ : ∃ q, k = q + 1 := ⟨k - 1, by omega⟩
    rw [rosterlaw08_sameAttrs.l0, if_neg (by omega)]
  | succ j ih =>
    intro i k hi hk
    obtain ⟨k, rfl⟩ : ∃ q, k = q + 1 := ⟨k - 1, by omega⟩
    have g0 : i < l.length := by omega
    rw [rosterlaw08_sameAttrs.l0, if_pos (by omega), if_pos (by omega), if_pos (by omega), if_pos rfl, if_pos rfl, rdA l i g0, texts_f k _ (by omega) (hx _ (List.getElem_mem _)), Option.bind_some, if_pos rfl, wr i (by omega)]
    exact ih (i + 1) k (by omega) (by omega)
theorem attrs_f (k : Nat) (l : List S37) (hk : 4000000 ≤ k) (hl : l.length ≤ 1048576) (hx : ∀ a ∈ l, a.f2.length ≤ 1048576) : rosterlaw08_sameAttrs.f k l l = some true := by
  unfold rosterlaw08_sameAttrs.f
  rw [if_pos rfl]
  exact attrs_l l hl hx l.length 0 k (by omega) (by omega)
theorem pairs_l (l : List S39) (hl : l.length ≤ 1048576) : ∀ (j i k : Nat), i + j = l.length → j < k → rosterlaw08_samePairs.l0 k l l i = some true := by
  intro j
  induction j with
  | zero =>
    intro i k hi hk
    obtain ⟨k, rfl⟩ : ∃ q, k = q + 1 := ⟨k - 1, by omega⟩
    rw [rosterlaw08_samePairs.l0, if_neg (by omega)]
  | succ j ih =>
    intro i k hi hk
    obtain ⟨k, rfl⟩ : ∃ q, k = q + 1 := ⟨k - 1, by omega⟩
    rw [rosterlaw08_samePairs.l0, if_pos (by omega), if_pos (by omega), if_pos (by omega), if_neg (by simp), wr i (by omega)]
    exact ih (i + 1) k (by omega) (by omega)
theorem pairs_f (k : Nat) (l : List S39) (hk : 2000000 ≤ k) (hl : l.length ≤ 1048576) : rosterlaw08_samePairs.f k l l = some true := by
  unfold rosterlaw08_samePairs.f
  rw [if_pos rfl]
  exact pairs_l l hl l.length 0 k (by omega) (by omega)
def one (d : ByteArray) (vs : List ByteArray) : List S39 := vs.map fun v => ⟨d, v⟩
def pairs : List S37 → List S39
  | [] => []
  | a :: r => one a.f0 a.f2 ++ pairs r
def need : List S37 → Nat
  | [] => 1
  | a :: r => need r + (a.f2.length + 1) + 1
theorem back_1 (l : List S37) (n i : Int) (vs vs2 : List ByteArray) (line : Int) (name d cn : ByteArray) (hv : vs.length ≤ 1048576) : ∀ (t j k : Nat) (acc : List S39), j + t = vs.length → acc.length + t ≤ 1048576 →
    entry_Back.l1 (k + t + 1) l n i vs (vs.length : Int) (j : Int) line name acc d cn vs2 = entry_Back.l0 k l n (wrap64 (i + 1)) line name (acc ++ one d (vs.drop j)) := by
  intro t
  induction t with
  | zero =>
    intro j k acc hj ha
    rw [entry_Back.l1, if_neg (by omega), List.drop_of_length_le (by omega)]
    unfold one
    rw [List.map_nil, List.append_nil]
  | succ t ih =>
    intro j k acc hj ha
    have g : j < vs.length := by omega
    rw [entry_Back.l1, if_pos (by omega), if_pos (by omega), if_pos (by omega), if_pos (by omega), wr j (by omega), rdS vs j g, show k + (t + 1) = k + t + 1 by omega, ih (j + 1) k _ (by omega) (by rw [List.length_append, List.length_singleton]; omega), List.drop_eq_getElem_cons g]
    unfold one
    rw [List.map_cons, List.append_assoc, List.singleton_append]
theorem back_0 (l : List S37) (line : Int) (name : ByteArray) (hl : l.length ≤ 1048576) (hx : ∀ a ∈ l, a.f2.length ≤ 1048576) : ∀ (t i k : Nat) (acc : List S39), i + t = l.length → acc.length + (pairs (l.drop i)).length ≤ 1048576 →
    entry_Back.l0 (k + need (l.drop i)) l (l.length : Int) (i : Int) line name acc = some (line, name, acc ++ pairs (l.drop i)) := by
  intro t
  induction t with
  | zero =>
    intro i k acc hi ha
    rw [List.drop_of_length_le (by omega : l.length ≤ i)]
    show entry_Back.l0 (k + 1) _ _ _ _ _ _ = _
    rw [entry_Back.l0, if_neg (by omega)]
    show _ = some (line, name, acc ++ [])
    rw [List.append_nil]
  | succ t ih =>
    intro i k acc hi ha
    have g : i < l.length := by omega
    rw [List.drop_eq_getElem_cons g] at ha ⊢
    rw [show pairs (l[i] :: l.drop (i + 1)) = one l[i].f0 l[i].f2 ++ pairs (l.drop (i + 1)) from rfl] at ha ⊢
    rw [List.length_append] at ha
    have h1 : (one l[i].f0 l[i].f2).length = l[i].f2.length := List.length_map _
    rw [show k + need (l[i] :: l.drop (i + 1)) = (k + need (l.drop (i + 1)) + (l[i].f2.length + 1)) + 1 by rw [show need (l[i] :: l.drop (i + 1)) = need (l.drop (i + 1)) + (l[i].f2.length + 1) + 1 from rfl]; omega, entry_Back.l0, if_pos (by omega), if_pos (by omega), if_pos (by omega), rdA l i g]
    have h2 := back_1 l (l.length : Int) (i : Int) l[i].f2 l[i].f2 line name l[i].f0 l[i].f1 (hx _ (List.getElem_mem _)) l[i].f2.length 0 (k + need (l.drop (i + 1))) acc (by omega) (by omega)
    rw [show k + need (l.drop (i + 1)) + (l[i].f2.length + 1) = k + need (l.drop (i + 1)) + l[i].f2.length + 1 by omega]
    refine h2.trans ?_
    rw [List.drop_zero, wr i (by omega), ih (i + 1) k _ (by omega) (by rw [List.length_append]; omega), List.append_assoc]
theorem ref_1 (l : List S37) (e : Int) (nm : ByteArray) (ky : List ByteArray) (i : Nat) (g : i < l.length) (line : Int) (name : ByteArray) (hv : l[i].f2.length ≤ 1048576) : ∀ (t j k : Nat) (acc : List S39), j + t = l[i].f2.length → acc.length + t ≤ 1048576 →
    rosterref08_Back.l1 (k + t + 1) (i : Int) (j : Int) e nm ky l line name acc = rosterref08_Back.l0 k (wrap64 ((i : Int) + 1)) e nm ky l line name (acc ++ one l[i].f0 (l[i].f2.drop j)) := by
  intro t
  induction t with
  | zero =>
    intro j k acc hj ha
    rw [rosterref08_Back.l1, if_pos (by omega), if_pos (by omega), rdA l i g, if_neg (by omega), List.drop_of_length_le (by omega)]
    unfold one
    rw [List.map_nil, List.append_nil]
  | succ t ih =>
    intro j k acc hj ha
    have g2 : j < l[i].f2.length := by omega
    rw [rosterref08_Back.l1, if_pos (by omega), if_pos (by omega), rdA l i g, if_pos (by omega), if_pos (by omega), if_pos (by omega), wr j (by omega), rdS _ j g2, show k + (t + 1) = k + t + 1 by omega, ih (j + 1) k _ (by omega) (by rw [List.length_append, List.length_singleton]; omega), List.drop_eq_getElem_cons g2]
    unfold one
    rw [List.map_cons, List.append_assoc, List.singleton_append]
theorem ref_0 (l : List S37) (e : Int) (nm : ByteArray) (ky : List ByteArray) (line : Int) (name : ByteArray) (hl : l.length ≤ 1048576) (hx : ∀ a ∈ l, a.f2.length ≤ 1048576) : ∀ (t i k : Nat) (acc : List S39), i + t = l.length → acc.length + (pairs (l.drop i)).length ≤ 1048576 →
    rosterref08_Back.l0 (k + need (l.drop i)) (i : Int) e nm ky l line name acc = some (line, name, acc ++ pairs (l.drop i)) := by
  intro t
  induction t with
  | zero =>
    intro i k acc hi ha
    rw [List.drop_of_length_le (by omega : l.length ≤ i)]
    show rosterref08_Back.l0 (k + 1) _ _ _ _ _ _ _ _ = _
    rw [rosterref08_Back.l0, if_neg (by omega)]
    show _ = some (line, name, acc ++ [])
    rw [List.append_nil]
  | succ t ih =>
    intro i k acc hi ha
    have g : i < l.length := by omega
    rw [List.drop_eq_getElem_cons g] at ha ⊢
    rw [show pairs (l[i] :: l.drop (i + 1)) = one l[i].f0 l[i].f2 ++ pairs (l.drop (i + 1)) from rfl] at ha ⊢
    rw [List.length_append] at ha
    have h1 : (one l[i].f0 l[i].f2).length = l[i].f2.length := List.length_map _
    rw [show k + need (l[i] :: l.drop (i + 1)) = (k + need (l.drop (i + 1)) + (l[i].f2.length + 1)) + 1 by rw [show need (l[i] :: l.drop (i + 1)) = need (l.drop (i + 1)) + (l[i].f2.length + 1) + 1 from rfl]; omega, rosterref08_Back.l0, if_pos (by omega)]
    have h2 := ref_1 l e nm ky i g line name (hx _ (List.getElem_mem _)) l[i].f2.length 0 (k + need (l.drop (i + 1))) acc (by omega) (by omega)
    rw [show k + need (l.drop (i + 1)) + (l[i].f2.length + 1) = k + need (l.drop (i + 1)) + l[i].f2.length + 1 by omega]
    refine h2.trans ?_
    rw [List.drop_zero, wr i (by omega), ih (i + 1) k _ (by omega) (by rw [List.length_append]; omega), List.append_assoc]
theorem need_le (l : List S37) : need l = (pairs l).length + 2 * l.length + 1 := by
  induction l with
  | nil => rfl
  | cons a r ih =>
    show need r + (a.f2.length + 1) + 1 = (one a.f0 a.f2 ++ pairs r).length + 2 * (r.length + 1) + 1
    have h1 : (one a.f0 a.f2).length = a.f2.length := List.length_map _
    rw [List.length_append, h1]
    omega
/-! the row's kinds -/
abbrev TA := TyEntryBack.T37
def upA (x : TA) : S37 := ⟨x.1, x.2.1, x.2.2⟩
theorem up_C {w : World} {A : Option Addr} {n : Nat} {xs : List TA} (h : Kd.C TyEntryBack.k37 w A n xs) : Kd.C k37 w A n (xs.map upA) := by
  obtain ⟨h1, h2, h3⟩ := h
  refine ⟨by rw [List.length_map]; exact h1, h2, fun hn => ?_⟩
  obtain ⟨ad, e, hc⟩ := h3 hn
  refine ⟨ad, e, fun j p hj => ?_⟩
  rw [List.getElem?_map] at hj
  obtain ⟨q, hq, rfl⟩ := Option.map_eq_some_iff.1 hj
  obtain ⟨c, g1, g2, g3⟩ := hc j q hq
  exact ⟨c, g1, g2, g3⟩
theorem sum_len {α : Type} (l : List α) (f : α → Nat) (hf : ∀ x, 1 ≤ f x) : l.length ≤ (l.map f).sum := by
  induction l with
  | nil => simp
  | cons x r ih => have := hf x; simp only [List.map_cons, List.sum_cons, List.length_cons]; omega
theorem bulkA (x : TA) : 1 + x.2.2.length ≤ TyEntryBack.bulk37 x := by
  have : TyEntryBack.bulk37 x = 1 + (x.1.size + 1) + (x.2.1.size + 1) + ((x.2.2.map fun s => s.size + 1).sum + 1) := rfl
  have h3 := sum_len x.2.2 (fun s => s.size + 1) (fun s => by omega)
  omega
theorem sums (l : List TA) : (pairs (l.map upA)).length + l.length ≤ (l.map TyEntryBack.bulk37).sum ∧ ∀ a ∈ l.map upA, a.f2.length ≤ (l.map TyEntryBack.bulk37).sum := by
  induction l with
  | nil => exact ⟨by simp [pairs], fun a h => by cases h⟩
  | cons x r ih =>
    have hx := bulkA x
    have h1 : (one (upA x).f0 (upA x).f2).length = x.2.2.length := List.length_map _
    rw [List.map_cons, show pairs (upA x :: r.map upA) = one (upA x).f0 (upA x).f2 ++ pairs (r.map upA) from rfl, List.length_append, h1, List.map_cons, List.sum_cons, List.length_cons]
    refine ⟨by omega, fun a ha => ?_⟩
    rcases List.mem_cons.1 ha with rfl | ha
    · show x.2.2.length ≤ _
      omega
    · have := ih.2 a ha
      omega
theorem EntryBack (w : World) (x : TyEntryBack.T25) (cs : Array Value) (h : TyEntryBack.k25.K w x cs.toList) (hw : TyEntryBack.wf25 x) (hb : TyEntryBack.bulk25 x ≤ 1048576) :
    Calls Try.prog 3 #[.agg cs] w fun en w' => en = .returned (.bool true) ∧ Below w.heap.size w w' := by
  obtain ⟨line, name, k, l⟩ := x
  obtain ⟨c0, c1, e0, h0, c2, c3, e1, h1, c4, c5, e2, ⟨Ak, ck, h2, hck, hrk⟩, Aa, ca, h3, hca, hra⟩ := h
  have q0 : c0 = [.int .i64 line] := h0
  have q1 : c2 = [.string name] := h1
  subst q0; subst q1; subst h2; subst h3; subst e2; subst e1
  obtain rfl : cs = #[.int .i64 line, .string name, .slice Ak k.length ck, .slice Aa l.length ca] := by
    cases cs
    simpa using e0
  have hb2 : 1 + (1 + (name.size + 1) + ((k.map fun s => s.size + 1).sum + 1) + ((l.map TyEntryBack.bulk37).sum + 1)) ≤ 1048576 := by
    have : TyEntryBack.bulk25 (line, name, k, l) = 1 + 1 + (name.size + 1) + ((k.map fun s => s.size + 1).sum + 1) + ((l.map TyEntryBack.bulk37).sum + 1) := rfl
    omega
  have hkl := sum_len k (fun s => s.size + 1) (fun s => by omega)
  obtain ⟨s1, s2⟩ := sums l
  have el : (l.map upA).length = l.length := List.length_map _
  have hx : ∀ a ∈ l.map upA, a.f2.length ≤ 1048576 := fun a ha => by have := s2 a ha; omega
  have hn : (l.map upA).length ≤ 1048576 := by rw [el]; omega
  have hk : k.length ≤ 1048576 := by omega
  have hp : (pairs (l.map upA)).length ≤ 1048576 := by omega
  have hnd := need_le (l.map upA)
  have hBk : entry_Back.f 10000000 line name k (l.map upA) = some (line, name, pairs (l.map upA)) := by
    have := back_0 (l.map upA) line name hn hx (l.map upA).length 0 (10000000 - need (l.map upA)) [] (by omega) (by simpa using hp)
    rw [List.drop_zero, show 10000000 - need (l.map upA) + need (l.map upA) = 10000000 by omega] at this
    exact this
  have hRf : rosterref08_Back.f 10000000 line name k (l.map upA) = some (line, name, pairs (l.map upA)) := by
    have := ref_0 (l.map upA) line name k line name hn hx (l.map upA).length 0 (10000000 - need (l.map upA)) [] (by omega) (by simpa using hp)
    rw [List.drop_zero, show 10000000 - need (l.map upA) + need (l.map upA) = 10000000 by omega] at this
    exact this
  have hSa := attrs_f 10000000 (l.map upA) (by omega) hn hx
  have hSe : rosterlaw08_sameEntry.f 10000000 line name k (l.map upA) line name k (l.map upA) = some true := by
    unfold rosterlaw08_sameEntry.f
    rw [if_pos rfl, if_pos rfl, texts_f 10000000 k (by omega) hk, Option.bind_some, if_pos rfl, hSa, Option.bind_some]
  have hSr : rosterlaw08_sameRecord.f 10000000 line name (pairs (l.map upA)) line name (pairs (l.map upA)) = some true := by
    unfold rosterlaw08_sameRecord.f
    rw [if_pos rfl, if_pos rfl, pairs_f 10000000 _ (by omega) hp, Option.bind_some]
  have hq := W.back_any 10000000 line name k (l.map upA) Ak ck Aa ca (pairs (l.map upA)) w hrk hck (by rw [el]; exact up_C hra) (by rw [el]; exact hca) hk hn hx (roomy_f k hk) (copy_f 10000000 _ (by omega) hn hx) hSa hSe hBk hRf hSr
  rw [el] at hq
  exact hq
end Go.Proofs.Ytdckeakloifkdaa.Pure
