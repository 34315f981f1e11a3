/- Walk of the statement FrameKeeps: it comes to true. -/
import Derived.Test.YtgihlldkdbjkkaaKpm
import Derived.Sort.BigQuietIn
import Derived.Deep.CutRange
namespace Go.Proofs.Ytgihlldkdbjkkaa.W
open Go.RowKit Go.Proofs.YtgihlldkdbjkkaaW.PrintWords Go.Proofs.YtgihlldkdbjkkaaW.PrintLast Go.Proofs.Ytgihlldkdbjkkaa.GP
set_option linter.unusedVariables false
set_option linter.unusedSimpArgs false

def kBody : Kd (Int × ByteArray) := Kd.pair (Kd.int .i64) Kd.string
theorem body_at {w : World} {A : Option Addr} {n : Nat} {xs : List (Int × ByteArray)} (h : Kd.C kBody w A n xs) (i : Nat) (hi : i < n) : ∃ ad, A = some ad ∧ w.cell? (ad.add (i * 2)) = some (.int .i64 (xs.getD i (0, ⟨#[]⟩)).1) ∧
    w.cell? ⟨(ad.add (i * 2)).block, (ad.add (i * 2)).off + 1, none⟩ = some (.string (xs.getD i (0, ⟨#[]⟩)).2) := by
  obtain ⟨ad, c, e, _, hK, hc0⟩ := Kd.C_get h (0, ⟨#[]⟩) (i : Int) (by omega) (by omega)
  have hc : ∀ j u, c[j]? = some u → w.cell? (ad.add (i * 2 + j)) = some u := hc0
  obtain ⟨_, _, rfl, rfl, rfl⟩ := hK
  exact ⟨ad, e, hc 0 _ rfl, by rw [← add_field _ _ 1 (by omega)]; exact hc 1 _ rfl⟩
def totB (l : List (Int × ByteArray)) (i : Nat) : Nat := ((l.take i).map fun x => x.2.size).sum
theorem totB_succ (l : List (Int × ByteArray)) (i : Nat) (h : i < l.length) : totB l (i + 1) = totB l i + (l.getD i (0, ⟨#[]⟩)).2.size := by
  unfold totB
  rw [List.take_succ_eq_append_getElem h, List.map_append, List.sum_append, List.getD_eq_getElem?_getD, List.getElem?_eq_getElem h]
  simp
theorem totB_le (l : List (Int × ByteArray)) (i : Nat) : totB l i ≤ totB l l.length := by
  have h : totB l l.length = ((l.take i ++ l.drop i).map fun x => x.2.size).sum := by unfold totB; rw [List.take_length, List.take_append_drop]
  rw [h, List.map_append, List.sum_append]
  unfold totB
  omega
def bodyS (s : ByteArray) : ByteArray := if s.size ≤ 1000 then s else s.extract 0 1000
theorem bodyS_size (s : ByteArray) : (bodyS s).size ≤ 1000 ∧ (bodyS s).size ≤ s.size := by
  unfold bodyS
  split
  · exact ⟨by omega, Nat.le_refl _⟩
  · rw [ByteArray.size_extract]; omega
def m1 (x : Int × ByteArray) : ByteArray := msgOf (x.1, bodyS x.2)
def m2 (x : Int × ByteArray) : ByteArray := msgOf (0, bodyS x.2)
theorem short_small (s : ByteArray) (h : s.size ≤ 1000) : shortS s = s := by unfold shortS; rw [if_pos (by omega)]
theorem wrap_any (k : Int) (s : ByteArray) (w : World) (h : s.size ≤ 1000) : Calls Try.prog 5 #[.int .i64 k, .string s] w fun en w' => en = .returned (.string (msgOf (k, s))) ∧ Below w.heap.size w w' := by
  refine rosterlaw03_wrap.calls 20 k s (msgOf (k, s)) w ?_
  have := msgOf_f (k, s)
  rw [short_small s h] at this
  exact this
theorem msg_small (k : Int) (s : ByteArray) (h : s.size ≤ 1000) : (msgOf (k, s)).size ≤ s.size + 6 ∧ ∃ a n, Msg (msgOf (k, s)) a n ∧ a + n ≤ 1048576 := by
  have h1 : (msgOf (k, s)).size ≤ (shortS s).size + 6 := msgOf_size (k, s)
  obtain ⟨a, ha⟩ : ∃ a, Msg (msgOf (k, s)) a (shortS s).size := msgOf_msg (k, s)
  have h2 := (shortS_size s).2
  have h3 := ha.a6
  exact ⟨by omega, a, _, ha, by omega⟩
def msgsB (l : List (Int × ByteArray)) : List ByteArray := l.flatMap fun x => [m1 x, m2 x]
def preB (l : List (Int × ByteArray)) (i : Nat) : ByteArray := joinL (msgsB (l.take i))
theorem msgsB_succ (l : List (Int × ByteArray)) (i : Nat) (h : i < l.length) : msgsB (l.take (i + 1)) = msgsB (l.take i) ++ [m1 (l.getD i (0, ⟨#[]⟩)), m2 (l.getD i (0, ⟨#[]⟩))] := by
  unfold msgsB
  rw [List.take_succ_eq_append_getElem h, List.flatMap_append, List.getD_eq_getElem?_getD, List.getElem?_eq_getElem h]
  simp
theorem preB_succ (l : List (Int × ByteArray)) (i : Nat) (h : i < l.length) : preB l (i + 1) = preB l i ++ (m1 (l.getD i (0, ⟨#[]⟩)) ++ m2 (l.getD i (0, ⟨#[]⟩))) := by
  unfold preB
  obtain ⟨x, hx⟩ : ∃ x, x = l.getD i (0, ⟨#[]⟩) := ⟨_, rfl⟩
  have ej : joinL [m1 x, m2 x] = m1 x ++ m2 x := by rw [joinL, joinL, joinL, app_nil]
  rw [msgsB_succ l i h, joinL_app, ← hx, ej]
theorem two_cut (x : Int × ByteArray) : cutAt 1048576 (m1 x ++ m2 x) 0 = ([m1 x, m2 x], ((m1 x ++ m2 x).size : Int), 0) := by
  have h := cut_msgs 1048576 ⟨#[]⟩ [m1 x, m2 x] (by
    intro m hm
    rcases List.mem_cons.1 hm with rfl | hm
    · exact (msg_small x.1 (bodyS x.2) (bodyS_size x.2).1).2
    · rcases List.mem_cons.1 hm with rfl | hm
      · exact (msg_small 0 (bodyS x.2) (bodyS_size x.2).1).2
      · cases hm)
  have c0 : cutAt 1048576 ⟨#[]⟩ 0 = ([], 0, 0) := cutAt_end (Nat.le_refl _)
  have ej : joinL [m1 x, m2 x] = m1 x ++ m2 x := by rw [joinL, joinL, joinL, app_nil]
  rw [c0, app_nil, ej] at h
  simpa using h
theorem pre_cut (l : List (Int × ByteArray)) (i : Nat) : cutAt 1048576 (preB l i) 0 = (msgsB (l.take i), ((preB l i).size : Int), 0) := by
  have h := cut_msgs 1048576 ⟨#[]⟩ (msgsB (l.take i)) (by
    intro m hm
    obtain ⟨x, _, hx⟩ := List.mem_flatMap.1 hm
    rcases List.mem_cons.1 hx with rfl | hx
    · exact (msg_small x.1 (bodyS x.2) (bodyS_size x.2).1).2
    · rcases List.mem_cons.1 hx with rfl | hx
      · exact (msg_small 0 (bodyS x.2) (bodyS_size x.2).1).2
      · cases hx)
  have c0 : cutAt 1048576 ⟨#[]⟩ 0 = ([], 0, 0) := cutAt_end (Nat.le_refl _)
  rw [c0, app_nil] at h
  simpa [preB] using h
theorem preB_size (l : List (Int × ByteArray)) : ∀ i, i ≤ l.length → (preB l i).size ≤ 12 * i + 2 * totB l i := by
  intro i
  induction i with
  | zero => intro _; exact Nat.zero_le _
  | succ i ih =>
    intro hi
    have h := ih (by omega)
    rw [preB_succ l i (by omega), totB_succ l i (by omega), ByteArray.size_append, ByteArray.size_append]
    obtain ⟨x, hx⟩ : ∃ x, x = l.getD i (0, ⟨#[]⟩) := ⟨_, rfl⟩
    rw [← hx]
    have h1 := (msg_small x.1 (bodyS x.2) (bodyS_size x.2).1).1
    have h2 := (msg_small 0 (bodyS x.2) (bodyS_size x.2).1).1
    have h3 := (bodyS_size x.2).2
    have e1 : (m1 x).size = (msgOf (x.1, bodyS x.2)).size := rfl
    have e2 : (m2 x).size = (msgOf (0, bodyS x.2)).size := rfl
    omega
/-- What a Feed of one body's two messages answers. -/
theorem feed_two (l : List (Int × ByteArray)) (i : Nat) (h : i < l.length) (x : Int × ByteArray) (hx : x = l.getD i (0, ⟨#[]⟩)) (m : List ByteArray) (hm : (cutAt 1048576 (preB l i ++ (m1 x ++ m2 x)) 0).1 = (cutAt 1048576 (preB l i) 0).1 ++ m) :
    m = [m1 x, m2 x] ∧ (cutAt 1048576 (preB l i ++ (m1 x ++ m2 x)) 0).2.2 = 0 := by
  have h1 := pre_cut l (i + 1)
  rw [preB_succ l i h, ← hx] at h1
  rw [h1, pre_cut l i, msgsB_succ l i h, ← hx] at hm
  exact ⟨(List.append_cancel_left hm).symm, by rw [h1]⟩

theorem gen_w {W : World} {G R : World → Prop} (hR : R W) (h : ∀ W', R W' → G W') : G W := h W hR
theorem conv3 (V : World) (p q r : Int) : (convert 33 9 (.slice (some ⟨V.heap.size, 0, none⟩) 3 3)).run Try.prog (V.alloc (.cells #[.int .u8 p, .int .u8 q, .int .u8 r] 5)) = .ok (.string (strOfNums [p, q, r])) (V.alloc (.cells #[.int .u8 p, .int .u8 q, .int .u8 r] 5)) := by
  refine Kd.C_string (P := Try.prog) (src := 33) (dst := 9) (e := 5) (c := 3) Try.underlying33 Try.underlying5 Try.underlying9 ⟨rfl, by decide, fun _ => ⟨_, rfl, fun j x hj => ⟨[.int .u8 x], rfl, rfl, fun k u hu => ?_⟩⟩⟩
  match k, hu with
  | 0, hu =>
    injection hu with hu
    subst hu
    have e : (j * (Kd.int .u8).sz + 0) = j := by show j * 1 + 0 = j; omega
    rw [e, add_plain, (At.new V 5 #[.int .u8 p, .int .u8 q, .int .u8 r]).cell]
    match j, hj with
    | 0, hj => injection hj with hj; subst hj; rfl
    | 1, hj => injection hj with hj; subst hj; rfl
    | 2, hj => injection hj with hj; subst hj; rfl
theorem conv1 (V : World) (p : Int) : (convert 33 9 (.slice (some ⟨V.heap.size, 0, none⟩) 1 1)).run Try.prog (V.alloc (.cells #[.int .u8 p] 5)) = .ok (.string (strOfNums [p])) (V.alloc (.cells #[.int .u8 p] 5)) := by
  refine Kd.C_string (P := Try.prog) (src := 33) (dst := 9) (e := 5) (c := 1) Try.underlying33 Try.underlying5 Try.underlying9 ⟨rfl, by decide, fun _ => ⟨_, rfl, fun j x hj => ⟨[.int .u8 x], rfl, rfl, fun k u hu => ?_⟩⟩⟩
  match k, hu with
  | 0, hu =>
    injection hu with hu
    subst hu
    have e : (j * (Kd.int .u8).sz + 0) = j := by show j * 1 + 0 = j; omega
    rw [e, add_plain, (At.new V 5 #[.int .u8 p]).cell]
    match j, hj with
    | 0, hj => injection hj with hj; subst hj; rfl
theorem word_size (l : List Int) (s : ByteArray) (h : strOfNums l = s) : s.size = l.length := by rw [← h]; exact wstr_size l
theorem wpList_append_two {ops : Array Oper} {rest : List Oper} {o : Oper} {a : Act} {w : World} {Q : Exit → Act → World → Prop} (hgd : o.guard = none) (s x : Operand)
    (ho : o.op = .call { callee := .builtin .append, args := #[s, x], argTypes := #[29, 29] }) (b c : Nat) (p q z : ByteArray)
    (hs : a.eval s = .slice (some ⟨b, 0, none⟩) 2 c) (hS : Str w b c [p, q]) (H cx : Nat) (hx : a.eval x = .slice (some ⟨H, 0, none⟩) 1 cx) (hH : At w H 9 #[.string z]) (hb : b ≠ H)
    (hK : ∀ g e w', Str w' b c [p, q] → Str w' g e [p, q, z] → w.grownBy w' (some b) → (g = b ∨ w.heap.size ≤ g) → wpList Try.prog ops Q rest (a.put o.dst (.slice (some ⟨g, 0, none⟩) 3 e)) w') :
    wpList Try.prog ops Q (o :: rest) a w := wpList_append_mark hgd s x ho b c [p, q] (by show 2 ≤ 1000; omega) z hs hS H cx hx hH hb hK

theorem w_mx (w : ByteArray) : w ++ ⟨#[109, 120]⟩ = w ++ ⟨#[109]⟩ ++ ⟨#[120]⟩ := by rw [app_assoc]; rfl
theorem w_my (w : ByteArray) : w ++ ⟨#[109, 121]⟩ = w ++ ⟨#[109]⟩ ++ ⟨#[121]⟩ := by rw [app_assoc]; rfl
theorem w_nx (w : ByteArray) : w ++ ⟨#[110, 120]⟩ = w ++ ⟨#[110]⟩ ++ ⟨#[120]⟩ := by rw [app_assoc]; rfl
theorem w_ny (w : ByteArray) : w ++ ⟨#[110, 121]⟩ = w ++ ⟨#[110]⟩ ++ ⟨#[121]⟩ := by rw [app_assoc]; rfl

set_option maxRecDepth 100000 in
set_option maxHeartbeats 8000000 in
theorem keeps_any (A : Option Addr) (c : Nat) (bs : List (Int × ByteArray)) (w : World) (hC : Kd.C kBody w A bs.length bs) (hc : bs.length ≤ c) (hl : bs.length ≤ 349525) (hz : 12 * bs.length + 2 * totB bs bs.length ≤ 16777216) :
    Calls Try.prog 3 #[.slice A bs.length c] w fun en w' => en = .returned (.bool true) ∧ Below w.heap.size w w' := by
  have hps : ∀ i, i ≤ bs.length → (preB bs i).size ≤ 16777216 := fun i hi => by
    have h1 := preB_size bs i hi
    have h2 := totB_le bs i
    omega
  have HPS := Lib.hid hps
  have HC := Lib.hid hC
  clear hps hC hz
  go_enter Try.func3, Try.ntmps3
  go_wp2_with fail
  refine (New_st 1048576 w).mono ?_
  rintro en w1 ⟨gf, rfl, hgf, hF1, b1⟩
  have HF1 := Lib.hid hF1
  have HB1 := Lib.hid b1
  have fl := hF1.mem.lt
  clear hF1 b1
  go_wp2_with fail
  refine (New_st 1048576 w1).mono ?_
  rintro en w2 ⟨gg, rfl, hgg, hG2, b2⟩
  have hA : Al w w2 gf gg (.slice none 0 0) (.slice none 0 0) ⟨#[]⟩ ⟨#[]⟩ (.slice none 0 0) [] :=
    ⟨HF1.out.at b2, ⟨hG2.mem, Kd.R_lower hG2.row HB1.out.size⟩, by omega, (fun q hq => by simp [Value.ownBlock] at hq), hgf, by have := HB1.out.size; omega, ⟨rfl, .inl ⟨rfl, rfl⟩⟩, (fun x hx => by cases hx), HB1.out.trans (b2.mono HB1.out.size)⟩
  have HA0 := Lib.hid hA
  clear hA hG2 b2 HF1 HB1 hgf hgg fl
  go_wp2_with fail
  go_loopw [5, 6] (fun vk vi wr => ∃ (i : Nat) (vf vg : Value) (ms : List MkT), i ≤ bs.length ∧ vi = .int .i64 i ∧ ms.length = 4 * i ∧ Al w wr gf gg vf vg (preB bs i) (preB bs i) vk ms)
    (fun _ vi _ => bs.length - (intOf vi).toNat)
  case atStart => exact ⟨0, _, _, [], Nat.zero_le _, rfl, rfl, HA0.out⟩
  case round =>
    obtain ⟨i, vf, vg, ms, hi, rfl, hml, hA⟩ := hrel
    clear HA0
    by_cases hil : i < bs.length
    · obtain ⟨x, hx⟩ : ∃ x, x = bs.getD i (0, ⟨#[]⟩) := ⟨_, rfl⟩
      obtain ⟨ad, eA, x0, x1⟩ := body_at (Kd.C_below HC.out hA.b) i hil
      subst eA
      rw [← hx] at x0 x1
      have q0 : (0 : Int) ≤ i := by omega
      have q1 : (i : Int) < bs.length := by omega
      have hbz := (bodyS_size x.2).1
      obtain ⟨b, hb⟩ : ∃ b, b = bodyS x.2 := ⟨_, rfl⟩
      rw [← hb] at hbz
      have HB := Lib.hid hb
      have HX := Lib.hid hx
      have HA := Lib.hid hA
      clear hx hb hA
      go_upto_if 43 with fail
      go_cut [7] from 30 to 211 (fun v7 wx => v7 = .string b ∧ wx = wr)
      case first =>
        have hb := HB.out
        unfold bodyS at hb
        by_cases c1 : x.2.size ≤ 1000
        · rw [if_pos c1] at hb
          have c2 : ¬ ((x.2.size : Int) > 1000) := by omega
          rw [← hb] at c2 ⊢
          clear hb c1
          go_wp2_with fail
          go_meet
          case rel => exact ⟨rfl, rfl⟩
        · rw [if_neg c1] at hb
          have c2 : ((x.2.size : Int) > 1000) := by omega
          have c3 : (1000 : Int) ≤ x.2.size := by omega
          have HB2 := Lib.hid hb
          clear hb c1
          go_wp2_with fail
          go_meet
          case rel => exact ⟨by rw [HB2.out], rfl⟩
      case rest =>
        obtain ⟨rfl, hw⟩ := hcut
        rw [hw]
        clear hw
        go_wp2_with fail
        refine (wrap_any x.1 b wr hbz).mono ?_
        rintro en w1 ⟨rfl, b1⟩
        have A1 := HA.out.below b1
        have HA1 := Lib.hid A1
        clear A1 b1 HA x0 x1
        have s1 := (msg_small x.1 b hbz).1
        have s2 := (msg_small 0 b hbz).1
        obtain ⟨a1, h1⟩ : ∃ t, t = msgOf (x.1, b) := ⟨_, rfl⟩
        obtain ⟨a2, h2⟩ : ∃ t, t = msgOf (0, b) := ⟨_, rfl⟩
        rw [← h1] at s1 ⊢
        rw [← h2] at s2
        have e1 : a1 = m1 x := by rw [h1, HB.out]; rfl
        have e2 : a2 = m2 x := by rw [h2, HB.out]; rfl
        have HE1 := Lib.hid e1
        have HE2 := Lib.hid e2
        have H2 := Lib.hid h2
        clear h1 h2 e1 e2
        go_wp2_with fail
        refine (wrap_any 0 b w1 hbz).mono ?_
        rintro en w2 ⟨rfl, b2⟩
        rw [← H2.out]
        have A2 := HA1.out.below b2
        have HA2 := Lib.hid A2
        clear A2 b2 HA1 H2
        have hcat : a1.size + a2.size ≤ 9223372036854775807 := by omega
        have hz2 : (a1 ++ a2).size = a1.size + a2.size := ByteArray.size_append
        have hpz : (preB bs i).size + (a1 ++ a2).size ≤ 16777216 := by
          have h3 := HPS.out (i + 1) (by omega)
          rw [preB_succ bs i hil, ← HX.out, ← HE1.out, ← HE2.out, ByteArray.size_append] at h3
          exact h3
        have hcatb : (a1.size : Int) + a2.size ≤ 9223372036854775807 := by omega
        go_upto_region 13 with fail
        --MARK
        obtain ⟨S, hS⟩ : ∃ S, S = a1 ++ a2 := ⟨_, rfl⟩
        rw [← hS] at hz2 hpz ⊢
        have hS8 : S.size ≤ 8388608 := by omega
        have HS := Lib.hid hS
        clear hS
        have hcv := fun V => str_conv (S) V
        have hC2 := str_reads w2 S (by omega)
        have hBV := str_below w2 (S)
        have hAV := HA2.out.below hBV
        have hcap : S.size ≤ grownCap w2 S.size 0 5 := grownCap_ge _ _ _ _
        have WB := hAV.b.size
        have HAV := Lib.hid hAV
        have HCV := Lib.hid hC2
        clear hC2 hBV hAV hz2 HA2 hcat hcatb
        go_wp2_with fail
        refine (Feed_pre _ w.heap.size gf vf 1048576 (preB bs i) (S) _ _ HAV.out.f HCV.out hcap WB hpz).mono ?_
        rintro en w3 ⟨v0, vf', m, rfl, hm, hRm, hF3, ho, hT⟩
        --MARK
        have ft := feed_two bs i hil x HX.out m (by rw [← HE1.out, ← HE2.out, ← HS.out]; exact hm)
        rw [← HE1.out, ← HE2.out, ← HS.out] at ft
        obtain ⟨rfl, f0⟩ := ft
        rw [f0]
        --MARK
        obtain ⟨bm, cm, hv, hbm, SM⟩ := Str.of_R hRm (by show 0 < 2; omega)
        have hv : v0 = .slice (some ⟨bm, 0, none⟩) 2 cm := hv
        subst hv
        have A3 := HAV.out.fed hT hF3 ho
        have fm := HAV.out.fresh hbm
        have FM := Lib.hid fm
        have lbm : w.heap.size ≤ bm := Nat.le_trans WB hbm
        have F0 := Lib.hid f0
        have HA3 := Lib.hid A3
        have HSM := Lib.hid SM
        have SML := SM.lt
        clear hm hRm hF3 ho hT A3 f0 fm SM HAV HCV hcap WB hbm
        have hC2 := str_reads w3 (S) (by omega)
        have hBV := str_below w3 (S)
        have hAV := HA3.out.swap.below hBV
        have hcap : S.size ≤ grownCap w3 S.size 0 5 := grownCap_ge _ _ _ _
        have WB := hAV.b.size
        have hSV := HSM.out.below hBV
        have HSV := Lib.hid hSV
        have HAV := Lib.hid hAV
        have HCV := Lib.hid hC2
        have lt3 : bm < (Lib.bytesWorld w3 5 (S)).heap.size := hSV.lt
        clear hC2 hBV hAV HA3 HSM hSV
        go_wp2_with fail
        refine (Feed_pre _ w.heap.size gg vg 1048576 (preB bs i) (S) _ _ HAV.out.f HCV.out hcap WB hpz).mono ?_
        rintro en w4 ⟨v0, vg', m, rfl, hm, hRm, hF3, ho, hT⟩
        have ft := feed_two bs i hil x HX.out m (by rw [← HE1.out, ← HE2.out, ← HS.out]; exact hm)
        rw [← HE1.out, ← HE2.out, ← HS.out] at ft
        obtain ⟨rfl, f0⟩ := ft
        rw [F0.out]
        obtain ⟨bn, cn, hv, hbn, SN⟩ := Str.of_R hRm (by show 0 < 2; omega)
        have hv : v0 = .slice (some ⟨bn, 0, none⟩) 2 cn := hv
        subst hv
        have A4 := (HAV.out.fed hT hF3 ho).swap
        have SM4 := HSV.out.fed hT HAV.out.f
        have fn := HAV.out.fresh hbn
        have FN := Lib.hid fn
        have lbn : w.heap.size ≤ bn := Nat.le_trans WB hbn
        have nmn : bm ≠ bn := by omega
        have nnm : bn ≠ bm := by omega
        have HA4 := Lib.hid A4
        have HSM := Lib.hid SM4
        have HSN := Lib.hid SN
        have SML := SM4.lt
        have SNL := SN.lt
        have y0 := SM4.cell 0 a1 rfl
        have y1 := SM4.cell 1 a2 rfl
        have z0 := SN.cell 0 a1 rfl
        have z1 := SN.cell 1 a2 rfl
        clear hm hRm hF3 ho hT A4 f0 fn SM4 SN HAV HCV HSV F0 hcap WB hbn lt3 hcv hpz
        have hsame : ∀ q : Nat, Calls Try.prog 7 #[.slice (some ⟨bm, 0, none⟩) 2 cm, .slice (some ⟨bn, 0, none⟩) 2 cn] (w4.drewN q) fun e w' => e = .returned (.bool true) ∧ ∃ n, w' = (w4.drewN q).drewN n := fun q => by
          have hsm : Str (w4.drewN q) bm cm [a1, a2] := HSM.out.same rfl
          have hsn : Str (w4.drewN q) bn cn [a1, a2] := HSN.out.same rfl
          exact (rosterlaw03_same.calls 3 (some ⟨bm, 0, none⟩) cm [a1, a2] (some ⟨bn, 0, none⟩) cn [a1, a2] true _ hsm.C hsm.le.1 hsn.C hsn.le.1 (same_f [a1, a2] (by show 2 ≤ 1000000000; omega))).mono (fun e w' h => ⟨h.1, h.2.out⟩)
        go_wp2_with fail
        rw [HS.out]
        have hc1 : a1.size + a2.size ≤ 9223372036854775807 := by omega
        go_quiet ((go_at_call 7; (with_reducible refine (hsame _).mono ?_); rintro e w' ⟨rfl, ⟨nd, rfl⟩⟩; (try first | exact ⟨rfl, _, World.drewN_drewN _ _ _⟩ | exact ⟨rfl, _, Eq.trans (World.drewN_drewN _ _ _) (congrArg (World.drewN _) (Nat.add_assoc _ _ _))⟩)))
        have A5 := HA4.out.below (below_draws (Below.refl _ w4) nq)
        have SM5 : Str (w4.drewN nq) bm cm [a1, a2] := HSM.out.same rfl
        have SN5 : Str (w4.drewN nq) bn cn [a1, a2] := HSN.out.same rfl
        clear hsame y0 y1 z0 z1 HA4 HSM HSN
        --MARK
        go_upto_region 17 with fail
        obtain ⟨w5, hw5⟩ : ∃ W, W = w4.drewN nq := ⟨_, rfl⟩
        rw [← hw5] at A5 SM5 SN5 ⊢
        clear hw5
        have HA5 := Lib.hid A5
        have HSM := Lib.hid SM5
        have HSN := Lib.hid SN5
        have SML := SM5.lt
        have SNL := SN5.lt
        clear A5 SM5 SN5 hc1
        go_cut [13] from 30 to 211 (fun v13 wx => ∃ word : ByteArray, v13 = .string word ∧ word.size = 3 ∧ Al w wx gf gg vf' vg' (preB bs i ++ S) (preB bs i ++ S) u5 ms ∧ Str wx bm cm [a1, a2] ∧ Str wx bn cn [a1, a2])
        case first =>
          have hcv := fun V p q r => conv3 V p q r
          go_wp2_with fail
          go_meet
          case rel =>
            refine ⟨_, rfl, wstr_size _, HA5.out.below ?_, HSM.out.alloc _, HSN.out.alloc _⟩
            exact (Below.refl _ _).alloc (Nat.le_refl _) _
        case rest =>
          obtain ⟨word, rfl, hwz, A6, SM6, SN6⟩ := hcut
          have y0 := SM6.cell 0 a1 rfl
          have y1 := SM6.cell 1 a2 rfl
          have z0 := SN6.cell 0 a1 rfl
          have z1 := SN6.cell 1 a2 rfl
          have y2 := SM6.free 0
          have y3 := SM6.free 1
          have z2 := SN6.free 0
          have z3 := SN6.free 1
          have l1 := SM6.lt
          have l2 := SN6.lt
          have HA6 := Lib.hid A6
          have HSM6 := Lib.hid SM6
          have HSN6 := Lib.hid SN6
          have g1 : word.size + 1 ≤ 9223372036854775807 := by omega
          have g2 : word.size + 2 ≤ 9223372036854775807 := by omega
          clear A6 SM6 SN6 HA5 HSM HSN SML SNL
          --MARK
          go_upto_region 22 with fail
          refine gen_w (G := fun W => Code.wp _ _ _ _ W) (R := fun W => Al w W gf gg vf' vg' (preB bs i ++ S) (preB bs i ++ S) u5 ms ∧ Str W bm cm [word ++ ⟨#[109]⟩, word ++ ⟨#[109, 120]⟩] ∧ Str W bn cn [word ++ ⟨#[110]⟩, word ++ ⟨#[110, 120]⟩]) ?_ ?_
          · have N1 := (HSN6.out.far (p := ⟨bm, 0, none⟩) nnm (.string (word ++ ⟨#[109]⟩))).far (p := ⟨bm, 1, none⟩) nnm (.string (word ++ ⟨#[109, 120]⟩))
            have M1 := HSM6.out.set 0 (word ++ ⟨#[109]⟩)
            have B2 := (HA6.out.str HSM6.out FM.out lbm (set_grown _ bm 0 (.string (word ++ ⟨#[109]⟩)))).str M1 FM.out lbm (set_grown _ bm 1 (.string (word ++ ⟨#[109, 120]⟩)))
            have B4 := (B2.str N1 FN.out lbn (set_grown _ bn 0 (.string (word ++ ⟨#[110]⟩)))).str (N1.set 0 _) FN.out lbn (set_grown _ bn 1 (.string (word ++ ⟨#[110, 120]⟩)))
            exact ⟨B4, ((M1.set 1 _).far nmn _).far nmn _, (N1.set 0 _).set 1 _⟩
          rintro w7 ⟨A7, SM7, SN7⟩
          have HA7 := Lib.hid A7
          have HSM7 := Lib.hid SM7
          have HSN7 := Lib.hid SN7
          have l7 := SM7.lt
          have l7n := SN7.lt
          clear A7 SM7 SN7 HA6 HSM6 HSN6 y0 y1 y2 y3 z0 z1 z2 z3 l1 l2
          --MARK
          go_upto_region 23 with (at_builtin; refine wpList_append_two rfl (.tmp 124) (.tmp 127) rfl bm cm _ _ (word ++ ⟨#[109, 121]⟩) rfl (HSM7.out.alloc _) w7.heap.size 1 rfl (At.new _ _ _) (Nat.ne_of_lt l7) ?_; intro gm em w8 SM8 SG8 hg8 ho8)
          --MARK
          have A8 := (HA7.out.below ((Below.refl w7.heap.size w7).alloc (Nat.le_refl _) _)).str (HSM7.out.alloc _) FM.out lbm hg8
          have SN8 := (HSN7.out.alloc _).kept hg8 nnm
          have gmn : gm ≠ bn := by
            rcases ho8 with h | h
            · omega
            · simp at h; omega
          have lgm : w.heap.size ≤ gm := by
            rcases ho8 with h | h
            · omega
            · simp at h; have := HA7.out.b.size; omega
          have HA8 := Lib.hid A8
          have HSM8 := Lib.hid SM8
          have HSG8 := Lib.hid SG8
          have HSN8 := Lib.hid SN8
          have l8 := SN8.lt
          clear A8 SM8 SG8 SN8 hg8 ho8 HA7 HSM7 HSN7 l7 l7n
          go_upto_region 24 with (at_builtin; refine wpList_append_two rfl (.tmp 129) (.tmp 132) rfl bn cn _ _ (word ++ ⟨#[110, 121]⟩) rfl (HSN8.out.alloc _) w8.heap.size 1 rfl (At.new _ _ _) (Nat.ne_of_lt l8) ?_; intro gn en w9 SN9 SGN9 hg9 ho9)
          --MARK
          have A9 := (HA8.out.below ((Below.refl w8.heap.size w8).alloc (Nat.le_refl _) _)).str (HSN8.out.alloc _) FN.out lbn hg9
          have lgn : w.heap.size ≤ gn := by
            rcases ho9 with h | h
            · omega
            · simp at h; have := HA8.out.b.size; omega
          have K1 : MkOk w9 w.heap.size ⟨bm, cm, gm, em, word ++ ⟨#[109]⟩⟩ := mk_ok (w_mx word) (w_my word) ((HSM8.out.alloc _).kept hg9 nmn) ((HSG8.out.alloc _).kept hg9 gmn) lbm lgm (by rw [ByteArray.size_append, hwz]; decide)
          have K2 : MkOk w9 w.heap.size ⟨bn, cn, gn, en, word ++ ⟨#[110]⟩⟩ := mk_ok (w_nx word) (w_ny word) SN9 SGN9 lbn lgn (by rw [ByteArray.size_append, hwz]; decide)
          have HA9 := Lib.hid A9
          have HK1 := Lib.hid K1
          have HK2 := Lib.hid K2
          have hlen : ms.length + 2 ≤ 2000000 := by omega
          clear A9 K1 K2 hg9 ho9 SN9 SGN9 HA8 HSM8 HSG8 HSN8 l8
          go_upto_region 25 with (at_builtin; refine wpList_append_kept (ms := ms) rfl (.tmp 134) (.tmp 145) rfl (HA9.out.below ((Below.refl w9.heap.size w9).alloc (Nat.le_refl _) _)) [⟨bm, cm, gm, em, word ++ ⟨#[109]⟩⟩, ⟨bn, cn, gn, en, word ++ ⟨#[110]⟩⟩] 2 rfl (by decide) hlen rfl w9.heap.size 2 rfl (At.new _ _ _) ?_ ?_; (focus (intro y hy; rcases List.mem_cons.1 hy with rfl | hy; exact HK1.out.alloc _; rcases List.mem_cons.1 hy with rfl | hy; exact HK2.out.alloc _; cases hy)); intro gk ck w10 A10 hg10)
          --MARK
          have HA10 := Lib.hid A10
          have hct : cutAt 1048576 (a1 ++ a2) 0 = ([a1, a2], ((a1 ++ a2).size : Int), 0) := by rw [HE1.out, HE2.out]; exact two_cut x
          have hsz : (a1 ++ a2).size ≤ 16777216 := by rw [ByteArray.size_append]; omega
          have hsp := fun V => fsplit_any 1048576 (a1 ++ a2) V hsz
          rw [hct] at hsp
          have HSP := Lib.hid hsp
          clear A10 hg10 HA9 HK1 HK2 hlen hct hsp
          go_wp2_with fail
          go_loopw [5, 16] (fun vk vi wr => ∃ (k : Nat) (ms2 : List MkT), k ≤ 2 ∧ vi = .int .i64 k ∧ ms2.length = 4 * i + 2 + k ∧ Al w wr gf gg vf' vg' (preB bs i ++ S) (preB bs i ++ S) vk ms2)
            (fun _ vi _ => 2 - (intOf vi).toNat)
          case atStart => exact ⟨0, ms ++ [⟨bm, cm, gm, em, word ++ ⟨#[109]⟩⟩, ⟨bn, cn, gn, en, word ++ ⟨#[110]⟩⟩], by omega, rfl, by rw [List.length_append, hml]; rfl, by have h := HA10.out; rw [hml] at h; exact h⟩
          case round =>
            obtain ⟨k, ms2, hk, rfl, hml2, hA⟩ := hrel
            by_cases hkl : k < 2
            · have HA := Lib.hid hA
              have q2 : (k : Int) < 2 := by omega
              clear hA HA10
              go_wp2_with fail
              refine (HSP.out wr).mono ?_
              rintro en w11 ⟨v0, rfl, hR, hB⟩
              obtain ⟨bl, cl, hv, hbl, SL⟩ := Str.of_R hR (by show 0 < 2; omega)
              have hv : v0 = .slice (some ⟨bl, 0, none⟩) 2 cl := hv
              subst hv
              have A1 := HA.out.below hB
              have fl := HA.out.fresh hbl
              have lbl : w.heap.size ≤ bl := Nat.le_trans HA.out.b.size hbl
              have HA1 := Lib.hid A1
              have HSL := Lib.hid SL
              have FL := Lib.hid fl
              have ll := SL.lt
              clear A1 SL fl hbl hR hB HA
              go_upto_region 30 with fail
              --MARK
              refine gen_w (G := fun W => Code.wp _ _ _ _ W) (R := fun W => Al w W gf gg vf' vg' (preB bs i ++ S) (preB bs i ++ S) u5 ms2 ∧ Str W bl cl [a1, a2] ∧ At W w11.heap.size 39 #[.slice (some ⟨bl, 0, none⟩) 2 cl, .int .i64 ((a1.size : Int) + (a2.size : Int)), .int .i64 0]) ?_ ?_
              · refine ⟨HA1.out.below ?_, ?_, ?_⟩
                · repeat (first | exact Below.refl _ _ | (refine Below.setCell ?_ (by simp) _) | (refine Below.alloc ?_ (by simp) _))
                · repeat (first | exact HSL.out | (refine Str.far ?_ (by simp; omega) _) | (refine Str.alloc ?_ _))
                · repeat (first | exact (((At.new w11 39 _).set 0 _).set 1 _).set 2 _ | exact At.new w11 39 _)
              rintro w12 ⟨A12, SL12, C12⟩
              have y0 := SL12.cell 0 a1 rfl
              have y1 := SL12.cell 1 a2 rfl
              have y2 := SL12.free 0
              have y3 := SL12.free 1
              have c0 := (C12.cell 0).trans rfl
              have c1 := (C12.cell 1).trans rfl
              have c2 := (C12.cell 2).trans rfl
              have hc1 : a1.size + a2.size ≤ 9223372036854775807 := by omega
              have HA12 := Lib.hid A12
              have HSL12 := Lib.hid SL12
              have HML2 := Lib.hid hml2
              clear A12 SL12 C12 HA1 HSL ll hml2
              go_quiet (fail)
              --MARK
              have A13 := HA12.out.below (below_draws (Below.refl _ w12) nq)
              have SL13 : Str (w12.drewN nq) bl cl [a1, a2] := HSL12.out.same rfl
              clear HA12 HSL12 y0 y1 y2 y3 c0 c1 c2 hc1
              go_upto_region 32 with fail
              obtain ⟨w13, hw13⟩ : ∃ W, W = w12.drewN nq := ⟨_, rfl⟩
              rw [← hw13] at A13 SL13 ⊢
              clear hw13
              have HA13 := Lib.hid A13
              have HSL13 := Lib.hid SL13
              have ll := SL13.lt
              have g0 : word.size + 1 ≤ 9223372036854775807 := by omega
              clear A13 SL13
              go_cut [19] from 147 to 199 (fun v19 wx => ∃ wd : ByteArray, v19 = .string wd ∧ wd.size = 4 ∧ Al w wx gf gg vf' vg' (preB bs i ++ S) (preB bs i ++ S) u5 ms2 ∧ Str wx bl cl [a1, a2])
              case first =>
                have hcv := fun V p => conv1 V p
                have hws : ∀ p : Int, (strOfNums [p]).size = 1 := fun p => wstr_size _
                go_wp2_with fail
                go_meet
                case rel =>
                  refine ⟨_, rfl, by rw [ByteArray.size_append, hws, hwz], HA13.out.below ?_, HSL13.out.alloc _⟩
                  exact (Below.refl _ _).alloc (Nat.le_refl _) _
              case rest =>
                obtain ⟨wd, rfl, hwd, A14, SL14⟩ := hcut
                have y0 := SL14.cell 0 a1 rfl
                have y1 := SL14.cell 1 a2 rfl
                have y2 := SL14.free 0
                have y3 := SL14.free 1
                have l1 := SL14.lt
                have HA14 := Lib.hid A14
                have HSL14 := Lib.hid SL14
                have g3 : wd.size + 1 ≤ 9223372036854775807 := by omega
                clear A14 SL14 HA13 HSL13 ll
                --MARK
                go_upto_region 35 with fail
                refine gen_w (G := fun W => Code.wp _ _ _ _ W) (R := fun W => Al w W gf gg vf' vg' (preB bs i ++ S) (preB bs i ++ S) u5 ms2 ∧ Str W bl cl [wd, wd ++ ⟨#[120]⟩]) ?_ ?_
                · have M1 := HSL14.out.set 0 wd
                  have B2 := (HA14.out.str HSL14.out FL.out lbl (set_grown _ bl 0 (.string wd))).str M1 FL.out lbl (set_grown _ bl 1 (.string (wd ++ ⟨#[120]⟩)))
                  exact ⟨B2, M1.set 1 _⟩
                rintro w15 ⟨A15, SL15⟩
                have HA15 := Lib.hid A15
                have HSL15 := Lib.hid SL15
                have l15 := SL15.lt
                clear A15 SL15 HA14 HSL14 y0 y1 y2 y3 l1
                --MARK
                go_upto_region 36 with (at_builtin; refine wpList_append_two rfl (.tmp 188) (.tmp 191) rfl bl cl _ _ (wd ++ ⟨#[121]⟩) rfl (HSL15.out.alloc _) w15.heap.size 1 rfl (At.new _ _ _) (Nat.ne_of_lt l15) ?_; intro gl el w16 SL16 SGL16 hg16 ho16)
                have A16 := (HA15.out.below ((Below.refl w15.heap.size w15).alloc (Nat.le_refl _) _)).str (HSL15.out.alloc _) FL.out lbl hg16
                have lgl : w.heap.size ≤ gl := by
                  rcases ho16 with h | h
                  · omega
                  · simp at h; have := HA15.out.b.size; omega
                have K3 : MkOk w16 w.heap.size ⟨bl, cl, gl, el, wd⟩ := mk_ok rfl rfl SL16 SGL16 lbl lgl (by omega)
                have HA16 := Lib.hid A16
                have HK3 := Lib.hid K3
                have hlen : ms2.length + 1 ≤ 2000000 := by have := HML2.out; omega
                clear A16 K3 hg16 ho16 SL16 SGL16 HA15 HSL15 l15
                --MARK
                go_upto_region 27 with (at_builtin; refine wpList_append_kept (ms := ms2) rfl (.tmp 193) (.tmp 198) rfl (HA16.out.below ((Below.refl w16.heap.size w16).alloc (Nat.le_refl _) _)) [⟨bl, cl, gl, el, wd⟩] 1 rfl (by decide) hlen rfl w16.heap.size 1 rfl (At.new _ _ _) ?_ ?_; (focus (intro y hy; rcases List.mem_cons.1 hy with rfl | hy; exact HK3.out.alloc _; cases hy)); intro gk ck w17 A17 hg17)
                have HA17 := Lib.hid A17
                clear A17 hg17 HA16 HK3 hlen
                have hk3 : k + 1 ≤ 2 := by omega
                have hml3 : (ms2 ++ [(⟨bl, cl, gl, el, wd⟩ : MkT)]).length = 4 * i + 2 + (k + 1) := by rw [List.length_append, HML2.out, List.length_singleton, Nat.add_assoc]
                have HML3 := Lib.hid hml3
                clear hml3
                --MARK
                go_wp2_with fail
                --MARK
                go_roundw
                case rel => exact ⟨k + 1, ms2 ++ [⟨bl, cl, gl, el, wd⟩], hk3, by go_num, HML3.out, HA17.out⟩
                case measure => simp [intOf]; omega
            · have hkI : ¬ ((k : Int) < 2) := by omega
              have HK2 := Lib.hid (show k = 2 by omega)
              have hmb : ms2.length ≤ 2000000 := by rw [hml2]; omega
              obtain ⟨gk2, ck2, hv2, -⟩ := mark_cells hA.k (i := 0) (by omega)
              subst hv2
              have HA := Lib.hid hA
              have HML2 := Lib.hid hml2
              have hpre : preB bs (i + 1) = preB bs i ++ S := by rw [preB_succ bs i hil, ← HX.out, ← HE1.out, ← HE2.out, ← HS.out]
              have HPRE := Lib.hid hpre
              clear hA hml2 hpre HA10 hml
              --MARK
              go_wp2_with fail
              go_loopw [21] (fun vi wr => ∃ k : Nat, k ≤ ms2.length ∧ vi = .int .i64 k ∧ Al w wr gf gg vf' vg' (preB bs i ++ S) (preB bs i ++ S) (.slice (some ⟨gk2, 0, none⟩) ms2.length ck2) ms2)
                (fun vi _ => ms2.length - (intOf vi).toNat)
              case atStart => exact ⟨0, Nat.zero_le _, rfl, HA.out⟩
              case round =>
                obtain ⟨k, hk2, rfl, hA⟩ := hrel
                by_cases hkl2 : k < ms2.length
                · obtain ⟨g', c', hv', x0, x1, x2⟩ := mark_cells hA.k hkl2
                  have hg' : gk2 = g' := by injection hv' with h1 h2 h3; injection h1 with h1; injection h1
                  subst hg'
                  have hw := whole_any (hA.m ms2[k] (List.getElem_mem hkl2))
                  obtain ⟨mk, hmk⟩ : ∃ m, m = ms2[k] := ⟨_, rfl⟩
                  rw [← hmk] at x0 x1 x2 hw
                  have q3 : (0 : Int) ≤ k := by omega
                  have q4 : (k : Int) < ms2.length := by omega
                  have HAk := Lib.hid hA
                  have HW := Lib.hid hw
                  clear hA hmk hv' hw HA
                  --MARK
                  go_wp2_with fail
                  refine HW.out.mono ?_
                  rintro en w20 ⟨rfl, hb20⟩
                  have A20 := HAk.out.below hb20
                  have HA20 := Lib.hid A20
                  clear A20 hb20 HAk x0 x1 x2 HW
                  --MARK
                  go_wp2_with fail
                  go_roundw
                  case rel => exact ⟨k + 1, by omega, by go_num, HA20.out⟩
                  case measure => simp [intOf]; omega
                · obtain rfl : k = ms2.length := by omega
                  have HAk := Lib.hid hA
                  clear hA HA
                  --MARK
                  go_wp2_with fail
                  go_roundw
                  case rel => exact ⟨i + 1, vf', vg', ms2, by omega, by go_num, by rw [HML2.out, HK2.out]; omega, by rw [HPRE.out]; exact HAk.out⟩
                  case measure => simp [intOf]; omega
    · obtain rfl : i = bs.length := by omega
      have HAe := Lib.hid hA
      clear hA
      go_wp2_with fail
      go_ret
      exact ⟨rfl, HAe.out.b⟩
end Go.Proofs.Ytgihlldkdbjkkaa.W
