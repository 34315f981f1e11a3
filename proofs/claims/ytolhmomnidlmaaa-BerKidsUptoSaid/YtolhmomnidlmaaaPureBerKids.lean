/- BerKids: what Write lays down in a made node is taken apart by Split kid by kid; Join and Write lay each down alike. (Lists of at most 1048576 nodes and bytes.) -/
import Derived.Test.YtolhmomnidlmaaaStBerKids
import Derived.Test.YtolhmomnidlmaaaKw
import Derived.Lib.Hide
namespace Go.Proofs.Ytolhmomnidlmaaa.Pure
open Go.RowKit Go.Proofs.Ytolhmomnidlmaaa.GK Go.Proofs.Ytolhmomnidlmaaa.W Go.Proofs.YtolhmomnidlmaaaW.PrintWords Go.Proofs.YtolhmomnidlmaaaW.PrintLast
set_option linter.unusedVariables false
set_option linter.unusedSimpArgs false

def dnK (x : S49) : NodeT := (x.f0, x.f1, x.f2, x.f3, x.f4)
theorem rd_dn (l : List S49) (i : Nat) : dnK (rd_T49 l (i : Int)) = nd (l.map dnK) i := by
  unfold rd_T49 nd
  rw [Int.toNat_natCast]
  by_cases h : i < l.length
  · rw [List.getD_eq_getElem?_getD, List.getD_eq_getElem?_getD, List.getElem?_map, List.getElem?_eq_getElem h]
    rfl
  · rw [List.getD_eq_getElem?_getD, List.getD_eq_getElem?_getD, List.getElem?_map, List.getElem?_eq_none (by omega)]
    rfl
theorem wrk (x : Int) (h0 : -9223372036854775808 ≤ x) (h1 : x < 9223372036854775808) : wrap64 x = x := by unfold wrap64; omega
/-- lifted: the run, one depth higher up. -/
theorem lifted_ev (l : List S49) (i j : Nat) (hS : Snd (l.map dnK)) (hl : l.length ≤ 100000000) (hk : Kid (l.map dnK) i j) :
    ∃ P : List S49, P.map dnK = W.part (l.map dnK) i j ∧ Ev (fun k => rosterlaw02_lifted.f k l (i : Int)) (P, (j : Int)) := by
  obtain ⟨xs, hxs⟩ : ∃ xs, xs = l.map dnK := ⟨_, rfl⟩
  have hlen : xs.length = l.length := by rw [hxs, List.length_map]
  rw [← hxs] at hS hk ⊢
  have hlt := hk.lt
  have hle := hk.le
  have key : ∀ (n q : Nat), q + n = j → i ≤ q → ∀ P : List S49, P.map dnK = W.part xs i q → P.length = q - i →
      ∃ P' : List S49, P'.map dnK = W.part xs i j ∧ Ev (fun k => rosterlaw02_lifted.l0 k l (i : Int) P (q : Int)) (P', (j : Int)) := by
    intro n
    induction n with
    | zero =>
      intro q hq hiq P hP hPl
      obtain rfl : q = j := by omega
      refine ⟨P, hP, ?_⟩
      refine Ev.step (f := fun _ => some (P, (q : Int))) (fun k => ?_) (Ev.now _)
      have e4 : (q : Int) < (l.length : Int) → ¬ (nd xs q).1 > 2 := fun c => by have := hk.last (by omega); omega
      have e5 : (0 : Int) ≤ (q : Int) := by omega
      have e6 : ¬ (q : Int) = (i : Int) := by omega
      have e1 : wrap64 ((i : Int) + (P.length : Int)) = (q : Int) := by rw [hPl, wrk _ (by omega) (by omega)]; omega
      rw [rosterlaw02_lifted.l0, e1]
      by_cases c : (q : Int) < (l.length : Int)
      · have hr := rd_dn l q
        rw [← hxs] at hr
        have hr1 : (rd_T49 l (q : Int)).f0 = (nd xs q).1 := congrArg Prod.fst hr
        rw [if_pos c, if_neg e6, if_pos e5, hr1, if_neg (e4 c)]
      · rw [if_neg c]
    | succ n ih =>
      intro q hq hiq P hP hPl
      have hr := rd_dn l q
      rw [← hxs] at hr
      have hr1 : (rd_T49 l (q : Int)).f0 = (nd xs q).1 := congrArg Prod.fst hr
      have hdp := hS.depth q (by omega)
      obtain ⟨P2, hP2⟩ : ∃ P2, P2 = P ++ [(⟨(nd xs q).1 - 1, (rd_T49 l (q : Int)).f1, (rd_T49 l (q : Int)).f2, (rd_T49 l (q : Int)).f3, (rd_T49 l (q : Int)).f4⟩ : S49)] := ⟨_, rfl⟩
      have hone : seg xs q (q + 1) = [nd xs q] := by rw [seg_cons xs (by omega) (by omega), seg_nil]
      have hm2 : P2.map dnK = W.part xs i (q + 1) := by
        rw [hP2, List.map_append, hP]
        unfold W.part
        rw [seg_append xs (i := i) (j := q) (k := q + 1) hiq (by omega), hone, List.map_append]
        congr 1
        have : downN (nd xs q) = dnK ⟨(nd xs q).1 - 1, (rd_T49 l (q : Int)).f1, (rd_T49 l (q : Int)).f2, (rd_T49 l (q : Int)).f3, (rd_T49 l (q : Int)).f4⟩ := by
          rw [← hr]
          rfl
        rw [List.map_cons, List.map_cons, this]
        rfl
      have hl2 : P2.length = q + 1 - i := by rw [hP2, List.length_append, hPl]; simp; omega
      obtain ⟨P', h1, h2⟩ := ih (q + 1) (by omega) (by omega) P2 hm2 hl2
      refine ⟨P', h1, Ev.step (fun k => ?_) h2⟩
      have e3 : P.length < 2932031007402 := by omega
      have e4 : (q : Int) < (l.length : Int) := by omega
      have e5 : (0 : Int) ≤ (q : Int) := by omega
      have e6 : q ≠ i → (nd xs q).1 > 2 ∧ ¬ (q : Int) = (i : Int) := fun c => ⟨hk.deep q (by omega) (by omega), by omega⟩
      have e1 : wrap64 ((nd xs q).1 - 1) = (nd xs q).1 - 1 := wrk _ (by omega) (by omega)
      have e2 : wrap64 ((q : Int) + 1) = ((q + 1 : Nat) : Int) := by rw [wrk _ (by omega) (by omega)]; omega
      rw [rosterlaw02_lifted.l0, if_pos e4, hr1, e1, e2, ← hP2]
      by_cases c : q = i
      · rw [if_pos (show (q : Int) = (i : Int) by rw [c]), if_pos e5, if_pos e3]
      · rw [if_neg (e6 c).2, if_pos e5, if_pos (e6 c).1, if_pos e3]
  refine key (j - i) i (by omega) (Nat.le_refl _) [] ?_ (by simp)
  unfold W.part
  rw [seg_nil]
  rfl
theorem rd_mid (A B : List ElemT) (b : ElemT) (m : Nat) (h : A.length = m) : rd_T35 ((A ++ b :: B).map ber_Split.up) (m : Int) = ber_Split.up b := by
  subst h
  unfold rd_T35
  rw [Int.toNat_natCast, List.map_append, List.getD_eq_getElem?_getD, List.getElem?_append_right (by simp), List.length_map, Nat.sub_self]
  rfl
theorem join_lay {cls tag : Int} {made : Bool} {body : ByteArray} (h : okN cls tag) (hb : body.size ≤ 4294967295) : ber_Join.f cls made tag body = some (layS cls made tag body, 0) := by
  have : joinR cls made tag body = (layS cls made tag body, 0) := by
    unfold okN at h
    unfold joinR namedB
    rw [if_pos (by rw [decide_eq_true_eq]; omega), if_pos hb]
  unfold ber_Join.f
  rw [this]
theorem lay_ge (cls tag : Int) (made : Bool) (body : ByteArray) : body.size ≤ (layS cls made tag body).size := by
  unfold layS
  rw [ByteArray.size_append]
  omega
theorem kids_loop (l : List S49) (xs : List NodeT) (hxs : xs = l.map dnK) (hS : Snd xs) (hl : l.length ≤ 100000000) (hw : wt xs 0 xs.length ≤ 1048576) (s : ByteArray) (hs : s.size ≤ 1048576) :
    ∀ (f i : Nat) (pre : ByteArray) (A : List ElemT), 1 ≤ i → i ≤ xs.length → (i < xs.length → (nd xs i).1 ≤ 2) → 2 * (xs.length - i) + 2 ≤ f → A.length ≤ i → (wrK xs f i 1 pre).1 = s →
      Ev (fun k => rosterlaw02_BerKids.l0 k l s ((A ++ (splitAt_ s pre.size).1).map ber_Split.up) (bytesOf pre) (i : Int) (A.length : Int)) true ∧ (splitAt_ s pre.size).2 = none := by
  have hlen : xs.length = l.length := by rw [hxs, List.length_map]
  intro f
  induction f with
  | zero => intro i pre A h1 h2 h3 h4; omega
  | succ f ih =>
    intro i pre A h1 h2 htop h3 hA hk
    rw [wrK] at hk
    by_cases c : i < xs.length ∧ (1 : Int) < (nd xs i).1
    · rw [if_pos c] at hk
      obtain ⟨j, hj⟩ := kid_of xs c.1 (by have := htop c.1; omega)
      have hlt := hj.lt
      have hle := hj.le
      obtain ⟨p1, p2, p3⟩ := write_part hS hj (by omega) (f := f) (by omega)
      rw [p3] at hk
      obtain ⟨g, rfl⟩ : ∃ g, f = g + 1 := ⟨f - 1, by omega⟩
      have hlay := wrE_lay xs g i
      have hnm := hS.name i c.1
      obtain ⟨cls, hcls⟩ : ∃ x, x = (nd xs i).2.1 := ⟨_, rfl⟩
      obtain ⟨made, hmade⟩ : ∃ x, x = (nd xs i).2.2.1 := ⟨_, rfl⟩
      obtain ⟨tag, htag⟩ : ∃ x, x = (nd xs i).2.2.2.1 := ⟨_, rfl⟩
      obtain ⟨body, hbody⟩ : ∃ x, x = bodyE xs g i := ⟨_, rfl⟩
      rw [← hcls, ← hmade, ← htag, ← hbody] at hlay
      rw [← hcls, ← htag] at hnm
      rw [hlay] at hk p2
      have hpre := wrK_pre xs (g + 1) j 1 (pre ++ layS cls made tag body)
      obtain ⟨R, hR⟩ : ∃ R, R = (wrK xs (g + 1) j 1 ⟨#[]⟩).1 := ⟨_, rfl⟩
      have hs2 : s = pre ++ layS cls made tag body ++ R := by rw [← hk, hpre, ← hR]
      have hby : bytesOf s = bytesOf pre ++ (bytesOf (layS cls made tag body) ++ bytesOf R) := by rw [hs2, bytesOf_append, bytesOf_append, List.append_assoc]
      have hge := lay_ge cls tag made body
      have hssz : s.size = pre.size + (layS cls made tag body).size + R.size := by rw [hs2, ByteArray.size_append, ByteArray.size_append]
      have hsl := split_lay hby hnm (by omega)
      obtain ⟨i1, i2⟩ := ih j (pre ++ layS cls made tag body) (A ++ [(cls, made, tag, body)]) (by omega) hle hj.last (by omega) (by simp; omega) hk
      rw [hsl]
      refine ⟨?_, i2⟩
      obtain ⟨P, hP, K1, hK1⟩ := lifted_ev l i j (hxs ▸ hS) hl (hxs ▸ hj)
      rw [← hxs] at hP
      obtain ⟨K2, hK2⟩ := i1
      refine ⟨K1 + K2 + 1, fun k hkk => ?_⟩
      obtain ⟨k, rfl⟩ : ∃ q, k = q + 1 := ⟨k - 1, by omega⟩
      have e2 := hK2 k (by omega)
      have hlp : (A ++ [(cls, made, tag, body)]) ++ (splitAt_ s (pre ++ layS cls made tag body).size).1 = A ++ (cls, made, tag, body) :: (splitAt_ s (pre ++ layS cls made tag body).size).1 := by rw [List.append_assoc]; rfl
      have hbp : bytesOf (pre ++ layS cls made tag body) = bytesOf pre ++ bytesOf (layS cls made tag body) := bytesOf_append _ _
      have e2 : rosterlaw02_BerKids.l0 k l s ((A ++ [(cls, made, tag, body)] ++ (splitAt_ s (pre ++ layS cls made tag body).size).1).map ber_Split.up) (bytesOf (pre ++ layS cls made tag body)) (j : Int) ((A ++ [(cls, made, tag, body)]).length : Int) = some true := e2
      rw [hlp, hbp] at e2
      have hW : ber_Write.f P = some (layS cls made tag body, 0, 0) := by
        have hP' : P.map ber_Write.dn = W.part xs i j := hP
        have hpl := part_len xs (Nat.le_of_lt hlt) hle
        unfold ber_Write.f
        rw [hP', p2, if_pos ⟨by omega, p1⟩]
      have hPl : P.length = j - i := by
        have := congrArg List.length hP
        rw [List.length_map, part_len xs (Nat.le_of_lt hlt) hle] at this
        exact this
      have hr0 : dnK (rd_T49 P 0) = downN (nd xs i) := by
        have := rd_dn P 0
        rw [hP, part_nd xs (by omega) hle, Nat.add_zero] at this
        exact this
      have g1 : (rd_T49 P 0).f1 = cls := (congrArg (fun x : NodeT => x.2.1) hr0).trans hcls.symm
      have g2 : (rd_T49 P 0).f2 = made := (congrArg (fun x : NodeT => x.2.2.1) hr0).trans hmade.symm
      have g3 : (rd_T49 P 0).f3 = tag := (congrArg (fun x : NodeT => x.2.2.2.1) hr0).trans htag.symm
      have q1 : (A.length : Int) < (((A ++ (cls, made, tag, body) :: (splitAt_ s (pre ++ layS cls made tag body).size).1).map ber_Split.up).length : Int) := by
        rw [List.length_map, List.length_append, List.length_cons]; omega
      have q2 : ¬ (i : Int) ≥ (l.length : Int) := by omega
      have q3 : (0 : Int) ≤ (A.length : Int) := by omega
      have q4 : (0 : Int) < (P.length : Int) := by omega
      have q5 : (bytesOf pre).length + (layS cls made tag body).size < 140737488355328 := by rw [bytesOf_length]; omega
      have hl1 : ((A ++ [(cls, made, tag, body)]).length : Int) = wrap64 ((A.length : Int) + 1) := by rw [wrk _ (by omega) (by omega), List.length_append]; rfl
      have q0 : body.size ≤ 4294967295 := by omega
      have q6 : rosterlaw02_lifted.f k l (i : Int) = some (P, (j : Int)) := hK1 k (by omega)
      rw [hl1] at e2
      show rosterlaw02_BerKids.l0 (k + 1) l s ((A ++ (cls, made, tag, body) :: (splitAt_ s ((pre ++ layS cls made tag body).size : Nat)).1).map ber_Split.up) (bytesOf pre) (i : Int) (A.length : Int) = some true
      rw [rosterlaw02_BerKids.l0, if_pos q1, if_neg q2, q6, Option.bind_some, if_pos q3, rd_mid A _ _ _ rfl]
      dsimp only [ber_Split.up]
      rw [join_lay hnm q0, Option.bind_some, hW, Option.bind_some]
      dsimp only
      rw [if_pos rfl, if_pos rfl, if_pos rfl, if_pos q4, g1, g2, g3]
      refine Eq.trans (if_neg (show ¬ ((made != made) = true) by rw [bne_self_eq_false]; exact Bool.false_ne_true)) ?_
      refine Eq.trans (if_pos rfl) (Eq.trans (if_pos rfl) (Eq.trans (if_pos q5) ?_))
      exact e2
    · rw [if_neg c] at hk
      have hk' : pre = s := hk
      subst hk'
      have hi : i = xs.length := by
        by_cases hh : i = xs.length
        · exact hh
        · exfalso
          obtain ⟨q, rfl⟩ : ∃ q, i = q + 1 := ⟨i - 1, by omega⟩
          have := (hS.next q (by omega)).1
          exact c ⟨by omega, by omega⟩
      have he : splitAt_ pre pre.size = ([], none) := splitAt_end (by omega) (by omega)
      rw [he]
      refine ⟨Ev.step (f := fun _ => some true) (fun k => ?_) (Ev.now _), rfl⟩
      rw [rosterlaw02_BerKids.l0, if_neg (by simp), if_pos (by omega), str_bytes]
      simp
theorem wt_bulk (l : List S49) : wt (l.map dnK) 0 (l.map dnK).length = (l.map StBerKids.bulk49).sum := by
  unfold wt
  rw [List.take_of_length_le (Nat.le_refl _), List.drop_zero, List.map_map]
  congr 1
  apply List.map_congr_left
  intro x hx
  show x.f4.size + 6 = 6 + x.f4.size
  omega
theorem BerKids : StBerKids.Pure := by
  intro l hl hb hwf
  refine Ev.rounds (g := fun k => rosterlaw02_BerKids.f k l) ?_
  obtain ⟨xs, hxs⟩ : ∃ xs, xs = l.map dnK := ⟨_, rfl⟩
  have hlen : xs.length = l.length := by rw [hxs, List.length_map]
  have hwt : wt xs 0 xs.length ≤ 1048576 := by rw [hxs, wt_bulk]; exact hb
  have h1 : rosterlaw02_sound.f l = some (soundB xs) := by
    unfold rosterlaw02_sound.f
    have e : l.map rosterlaw02_sound.dn = xs := hxs.symm
    rw [e, if_pos (by omega)]
  have h2 : rosterlaw02_small.f l = some true := by
    unfold rosterlaw02_small.f
    have e : l.map rosterlaw02_small.dn = xs := hxs.symm
    rw [e, if_pos ⟨by omega, by omega⟩, decide_eq_true (by omega)]
  have hout : Ev (fun k => rosterlaw02_BerKids.j0 k l true) true := Ev.step (f := fun _ => some true) (fun k => by rw [rosterlaw02_BerKids.j0, if_pos rfl]) (Ev.now _)
  cases hsd : soundB xs with
  | false => exact Ev.congr (fun k => by rw [rosterlaw02_BerKids.f, h1, hsd, Option.bind_some, h2, Option.bind_some, if_neg Bool.false_ne_true]) hout
  | true =>
    obtain ⟨hS, h0⟩ := sound_snd hsd
    have hr0 : dnK (rd_T49 l 0) = nd xs 0 := by rw [hxs]; exact rd_dn l 0
    have g2 : (rd_T49 l 0).f2 = (nd xs 0).2.2.1 := congrArg (fun x : NodeT => x.2.2.1) hr0
    refine Ev.congr (f := fun k => rosterlaw02_BerKids.j0 k l (!(nd xs 0).2.2.1)) (fun k => by rw [rosterlaw02_BerKids.f, h1, hsd, Option.bind_some, h2, Option.bind_some, if_pos rfl, if_pos rfl, if_pos (by omega), g2]) ?_
    cases hm : (nd xs 0).2.2.1 with
    | false => exact hout
    | true =>
      have hwe := write_eq hsd
      have hlay := wrE_lay xs (2 * xs.length + 1) 0
      have hws := write_size xs hsd _ hwe
      have hge := lay_ge (nd xs 0).2.1 (nd xs 0).2.2.2.1 true (bodyE xs (2 * xs.length + 1) 0)
      have hnm := hS.name 0 h0
      have hf1 := hS.first h0
      rw [hm] at hlay
      have hbd : bodyE xs (2 * xs.length + 1) 0 = (wrK xs (2 * xs.length + 1) 1 1 ⟨#[]⟩).1 := by
        unfold bodyE
        rw [if_pos hm, hf1]
      obtain ⟨cls, hcls⟩ : ∃ x, x = (nd xs 0).2.1 := ⟨_, rfl⟩
      obtain ⟨tag, htag⟩ : ∃ x, x = (nd xs 0).2.2.2.1 := ⟨_, rfl⟩
      obtain ⟨body, hbody⟩ : ∃ x, x = bodyE xs (2 * xs.length + 1) 0 := ⟨_, rfl⟩
      rw [← hcls, ← htag, ← hbody] at hlay hge
      rw [← hcls, ← htag] at hnm
      rw [← hbody] at hbd
      rw [hlay] at hwe hws
      have hW : ber_Write.f l = some (layS cls true tag body, 0, 0) := by
        have e : l.map ber_Write.dn = xs := hxs.symm
        unfold ber_Write.f
        rw [e, hwe, if_pos ⟨by omega, by omega⟩]
      have hbs : body.size ≤ 1048576 := by omega
      have hby := lay_bytes (made := true) hnm (show body.size ≤ 4294967295 by omega)
      have hhas := has_of hby
      have hok : okForm (body.size : Int) (wideK body.size) := wide_ok (by omega) (by omega)
      have hz := hsz_range _ (okForm_le hok)
      have hhl := head_len cls true tag (body.size : Int) (wideK body.size)
      have hsl : ((layS cls true tag body).size : Int) = hsz (wideK body.size) + body.size := by
        have := congrArg List.length hby
        rw [bytesOf_length, List.length_append, bytesOf_length] at this
        omega
      have hh := hdr_has (e := ((layS cls true tag body).size : Int)) (d := 1) hhas.left hnm.1 hnm.2.1 hnm.2.2.1 hnm.2.2.2 (by omega) hok (by omega) (by omega)
      have hH : ber_Head.f (layS cls true tag body) = some (cls, true, tag, (body.size : Int), hsz (wideK body.size), 0) := by
        have hr : headR (layS cls true tag body) = (⟨cls, true, tag, body.size, hsz (wideK body.size)⟩, 0) := by
          unfold headR
          rw [hh]
        unfold ber_Head.f
        rw [hr, if_pos (by omega)]
      have hright := hhas.right
      rw [hhl] at hright
      have hx := has_extract hright
      have e0 : (0 + hsz (wideK body.size)).toNat = (hsz (wideK body.size)).toNat := by rw [Int.zero_add]
      have e1 : (0 + hsz (wideK body.size) + (body.size : Int)).toNat = (layS cls true tag body).size := by omega
      rw [e0, e1] at hx
      obtain ⟨i1, i2⟩ := kids_loop l xs hxs hS (by omega) hwt body hbs (2 * xs.length + 1) 1 ⟨#[]⟩ [] (by omega) (by omega) (fun hlt => by have := (hS.next 0 hlt).2; rw [hm, hf1, if_pos rfl] at this; exact this) (by omega) (by simp) hbd.symm
      have hz0 : ((⟨#[]⟩ : ByteArray).size : Int) = 0 := rfl
      have q9 : body.size ≤ 4194304 := by omega
      have hSp : ber_Split.f body = some ((splitAt_ body 0).1.map ber_Split.up, 0, 0) := by
        have hr : splitS body = ((splitAt_ body 0).1, 0, 0) := by
          unfold splitS
          have i2' : (splitAt_ body 0).2 = none := i2
          revert i2'
          generalize splitAt_ body 0 = X
          intro i2'
          obtain ⟨L, r⟩ := X
          simp only at i2'
          subst i2'
          rfl
        unfold ber_Split.f
        rw [hr, if_pos q9]
      have hfin : Ev (fun k => rosterlaw02_BerKids.l0 k l body ((splitAt_ body 0).1.map ber_Split.up) [] 1 0) true := i1
      have q1 : wrap64 (hsz (wideK body.size) + (body.size : Int)) = ((layS cls true tag body).size : Int) := by rw [wrk _ (by omega) (by omega), hsl]
      have q2 : decide (hsz (wideK body.size) < 2) = false := by rw [decide_eq_false_iff_not]; omega
      have q3 : (0 : Int) ≤ hsz (wideK body.size) := by omega
      have q4 : hsz (wideK body.size) ≤ ((layS cls true tag body).size : Int) := by omega
      refine Ev.step (f := fun k => rosterlaw02_BerKids.j1 k l (layS cls true tag body) false cls true tag body.size (hsz (wideK body.size))) (fun k => ?_) ?_
      · rw [rosterlaw02_BerKids.j0, if_neg (by simp), hW, Option.bind_some, hH, Option.bind_some]
        dsimp only
        rw [if_pos rfl, if_pos rfl, if_pos q1, q2]
      · refine Ev.step (f := fun k => rosterlaw02_BerKids.l0 k l body ((splitAt_ body 0).1.map ber_Split.up) [] 1 0) (fun k => ?_) hfin
        rw [rosterlaw02_BerKids.j1, if_neg Bool.false_ne_true, if_pos q3, if_pos q4, hx, hSp, Option.bind_some]
        dsimp only
        rw [if_pos rfl]
end Go.Proofs.Ytolhmomnidlmaaa.Pure
