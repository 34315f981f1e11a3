/- Texts of this claim in one: Wm -/
import Derived.Test.YtogjljpncdmlkaaDoorB3
import Derived.Test.YtogjljpncdmlkaaDoorB10
section
namespace Go.Proofs.YtogjljpncdmlkaaDoor.W
open Go.RowKit Go.Proofs.YtogjljpncdmlkaaDoorW.PrintWords Go.Proofs.YtogjljpncdmlkaaDoorW.PrintLast
set_option linter.unusedVariables false
set_option linter.unusedSimpArgs false
theorem writes_any (w0 : World) (A : Option Addr) (c : Nat) (xs : List NodeT) (hI : WrIn w0 A c xs) : ∀ m, Writes w0 A c xs m := by
  intro m
  induction m using Nat.strongRecOn with
  | _ m ih =>
    intro i g w hi hm hB hg hA
    obtain ⟨k, rfl⟩ : ∃ j, m = j + 1 := ⟨m - 1, q2_⟩
    exact element_write w0 A c xs hI k (fun j hj => ih j hj) i g w hi hm hB hg hA
theorem spot_none {w : World} {a : Addr} {v : Value} (h : w.cell? a = some v) : a.spot = none := by
  unfold World.cell? at h
  split at h
  · split at h
    · cases h
    · rename_i hs; simpa using hs
  · cases h
theorem WriteC_any (w0 : World) (A : Option Addr) (c : Nat) (xs : List NodeT) (hI : WrIn w0 A c xs) (hx : 0 < xs.length) (gw go B : Nat) (w : World) (hB : Below w0.heap.size w0 w) (hgw : w0.heap.size ≤ gw) (hgo : w0.heap.size ≤ go)
    (aW : At w gw 75 #[.slice A xs.length c, .int .i64 0]) (aO : At w go 9 #[.string ⟨#[]⟩]) (aF : At w B 77 #[.int .i64 0, .int .i64 0]) :
    Calls Tryd.prog 43 #[.pointer (some ⟨gw, 0, none⟩), .pointer (some ⟨go, 0, none⟩)] w (RunEnd none B fun w1 => At w1 go 9 #[.string (wrE xs (2 * xs.length + 2) 0).1] ∧ Below w0.heap.size w w1) := by
  have hE := writes_any w0 A c xs hI (2 * xs.length + 2) 0 gw w hx q2_ hB hgw aW
  have hne : go ≠ gw := aO.ne aW q14_
  have hne2 : B ≠ gw := aF.ne aW q14_
  have hne3 : B ≠ go := aF.ne aO q14_
  have hB0 := hB.size
  have HE := Lib.hid hE
  clear hE hI
  go_enter Tryd.func43, Tryd.ntmps43
  go_wp2_with fail
  refine HE.out.mono ?_
  rintro en w1 ⟨rfl, a1, g1⟩
  have o1 := aO.kept g1 hne
  have f1 := aF.kept g1 hne2
  have c0 := (o1.cell 0).trans rfl
  have e0 := o1.free 0
  have O1 := Lib.hid o1
  clear o1
  go_wp2_with fail
  go_end0
  refine ⟨rfl, f1.far hne3 _, O1.out.set 0 _, ?_⟩
  exact (below_grow (Below.refl _ _) g1 hB0 hgw).setCell hgo _
def Light (xs : List NodeT) : Prop := xs.length ≤ 100000000 ∧ wt xs 0 xs.length ≤ 134217728
theorem nd_out (xs : List NodeT) (i : Nat) (h : xs.length ≤ i) : nd xs i = zN := by
  unfold nd
  rw [List.getD_eq_getElem?_getD, List.getElem?_eq_none h]
  rfl
def beforeV (ad : Addr) (k : Nat) : Value := if k = 0 then .pointer none else .pointer (some (ad.add ((k - 1) * 5)))
theorem foll_depth {b : Option (Int × Bool)} {n : NodeT} (h : follB b n = true) : 1 ≤ n.1 := by
  unfold follB at h
  simp only [Bool.and_eq_true] at h
  obtain ⟨_, h⟩ := h
  cases b with
  | none => simp at h; omega
  | some x => obtain ⟨d, m⟩ := x; simp at h; omega
set_option maxRecDepth 100000 in
set_option maxHeartbeats 4000000 in
theorem Write_some (A : Option Addr) (c : Nat) (xs : List NodeT) (w : World) (hR : Kd.C kNode w A xs.length xs) (hc : xs.length ≤ c) (hL : Light xs) (hx : 0 < xs.length) :
    Calls Tryd.prog 26 #[.slice A xs.length c] w fun en w' => en = .returned (.tuple #[.string (writeS xs).1, .int .i64 (writeS xs).2.1, .int .i64 (writeS xs).2.2]) ∧ Below w.heap.size w w' := by
  have hmf : ∀ (fn : Fn) (first cap : Array Value) (w : World), (Instr.makeFunc fn first cap).run Tryd.prog w = .ok (.func fn first cap) w := fun _ _ _ _ => rfl
  obtain ⟨hfew, hlight⟩ := hL
  obtain ⟨ad, rfl, -⟩ := node_at hR 0 hx
  obtain ⟨r, hr⟩ : ∃ r, badN xs (xs.length + 1) 0 = r := ⟨_, rfl⟩
  obtain ⟨ws, hws⟩ : ∃ ws, writeS xs = ws := ⟨_, rfl⟩
  have hws2 : ws = match (generalizing := false) r with | some x => (⟨#[]⟩, x.1, x.2) | none => ((wrE xs (2 * xs.length + 2) 0).1, 0, 0) := by
    rw [← hws, ← hr]
    unfold writeS
    rw [if_neg q2_]
    cases badN xs (xs.length + 1) 0 <;> rfl
  have hgood : Hid (r = none → WrIn w (some ad) c xs) := by
    intro h
    refine ⟨hR, hc, hfew, hlight, fun i hi => ?_⟩
    by_cases hil : i < xs.length
    · exact (foll_made (badN_at xs _ 0 (by rw [hr]; exact h) q2_ i q2_ hil).1).2 hi
    · rw [nd_out xs i q2_] at hi; cases hi
  rw [hws]
  have HWS := Lib.hid hws2
  have HBR := Lib.hid hr
  have HR := Lib.hid hR
  have hx0 : ((xs.length : Int) == 0) = false := by rw [beq_eq_false_iff_ne]; omega
  have hx1 : (xs.length == 0) = false := by rw [beq_eq_false_iff_ne]; omega
  clear hws hws2 hr hR
  go_enter Tryd.func26, Tryd.ntmps26
  go_wp2_with fail
  go_loopw [5, 15] (fun v i wr => ∃ k : Nat, k ≤ xs.length ∧ v = beforeV ad k ∧ i = .int .i64 k ∧ Hid (r = badN xs (xs.length + 1 - k) k) ∧ (0 < k → 0 ≤ (nd xs (k - 1)).1 ∧ (nd xs (k - 1)).1 ≤ 64) ∧ Below w.heap.size w wr)
    (fun _ i _ => xs.length - (intOf i).toNat)
  case atStart => exact ⟨0, Nat.zero_le _, rfl, rfl, HBR.out.symm, fun h => by omega, Below.refl _ _⟩
  case round =>
    obtain ⟨k, hk, rfl, rfl, HB, hprev, qB⟩ := hrel
    have zw := qB.size
    by_cases hkl : k < xs.length
    · obtain ⟨ad', e', m0, m1, m2, m3, m4⟩ := node_at (Kd.C_below HR.out qB) k hkl
      obtain rfl : ad = ad' := Option.some.inj e'
      have k0 : (0 : Int) ≤ (k : Int) := by omega
      have k1 : (k : Int) < (xs.length : Int) := by omega
      have hF : ∀ W, wr = W → Calls Tryd.prog 41 #[beforeV ad k, .agg #[.int .i64 (nd xs k).1, .int .i64 (nd xs k).2.1, .bool (nd xs k).2.2.1, .int .i64 (nd xs k).2.2.2.1, .string (nd xs k).2.2.2.2]] W fun en w' => en = .returned (.bool (follB (prevOf xs k) (nd xs k))) ∧ Below W.heap.size W w' := by
        rintro W rfl
        unfold beforeV prevOf
        by_cases h0 : k = 0
        · rw [if_pos h0, if_pos h0]
          exact follows_first _ _
        · rw [if_neg h0, if_neg h0]
          obtain ⟨ad2, e2, p0, _, p2, _, _⟩ := node_at (Kd.C_below HR.out qB) (k - 1) q2_
          obtain rfl : ad = ad2 := Option.some.inj e2
          have hp := hprev q2_
          exact follows_next _ _ _ _ _ hp.1 hp.2 p0 p2 (World.block_lt_of_cell? wr _ p0) (spot_none p0)
      obtain ⟨n, hn⟩ : ∃ n, n = nd xs k := ⟨_, rfl⟩
      rw [← hn] at m0 m1 m2 m3 m4 hF
      obtain ⟨fb, hfb⟩ : ∃ fb, fb = follB (prevOf xs k) n := ⟨_, rfl⟩
      rw [← hfb] at hF
      have hst : badN xs (xs.length + 1 - k) k = if fb = true then (if 64 < n.1 then some (25, (k : Int)) else badN xs (xs.length + 1 - (k + 1)) (k + 1)) else some (28, (k : Int)) := by
        have e : xs.length + 1 - k = (xs.length + 1 - (k + 1)) + 1 := by omega
        rw [e, badN, if_pos hkl, ← hn, ← hfb]
      have hfd : fb = true → 1 ≤ n.1 := fun h => foll_depth (b := prevOf xs k) (by rw [← hfb]; exact h)
      have HF := Lib.hid hF
      have HST := Lib.hid hst
      have HN := Lib.hid hn
      have HFD := Lib.hid hfd
      have HPR := Lib.hid hprev
      obtain ⟨bv, hbv⟩ : ∃ bv, bv = beforeV ad k := ⟨_, rfl⟩
      rw [← hbv]
      have HBV := Lib.hid hbv
      clear hF hst hn hfb hfd hprev hbv e'
      cases fb with
      | false =>
        have hnot : (!false) = true := rfl
        go_wp2_with fail
        rw [HBV.out]
        refine (HF.out _ rfl).mono ?_
        rintro en w2 ⟨rfl, b2⟩
        have hrr := HB.out
        rw [HST.out, if_neg Bool.false_ne_true] at hrr
        subst hrr
        clear HBV
        go_wp2
        go_ret3
        rw [HWS.out]
        exact ⟨rfl, qB.trans (b2.mono zw)⟩
      | true =>
        have hnot : (!true) = false := rfl
        have hd1 := HFD.out rfl
        by_cases hdp : 64 < n.1
        · have hrr := HB.out
          rw [HST.out, if_pos rfl, if_pos hdp] at hrr
          subst hrr
          go_wp2_with fail
          rw [HBV.out]
          refine (HF.out _ rfl).mono ?_
          rintro en w2 ⟨rfl, b2⟩
          have m0' := pw_cell_below b2 m0
          clear HBV
          go_wp2
          go_ret3
          rw [HWS.out]
          exact ⟨rfl, qB.trans (b2.mono zw)⟩
        · have hrr : Hid (r = badN xs (xs.length + 1 - (k + 1)) (k + 1)) := by
            have h := HB.out
            rw [HST.out, if_pos rfl, if_neg hdp] at h
            exact h
          go_wp2_with fail
          rw [HBV.out]
          refine (HF.out _ rfl).mono ?_
          rintro en w2 ⟨rfl, b2⟩
          have m0' := pw_cell_below b2 m0
          have hbn : Value.pointer (some (ad.add (k * 5))) = beforeV ad (k + 1) := by unfold beforeV; rw [if_neg q2_]; rfl
          have HBN := Lib.hid hbn
          have HN2 : Hid (0 < k + 1 → 0 ≤ (nd xs (k + 1 - 1)).1 ∧ (nd xs (k + 1 - 1)).1 ≤ 64) := by
            intro _
            have e : k + 1 - 1 = k := by omega
            rw [e, ← HN.out]
            omega
          clear HBV hbn
          go_wp2
          go_roundw
          case rel => exact ⟨k + 1, q2_, HBN.out, by go_num, hrr, HN2.out, qB.trans (b2.mono zw)⟩
          case measure => simp [intOf]; omega
    · obtain rfl : k = xs.length := by omega
      have hrr := HB.out
      have e : xs.length + 1 - xs.length = 1 := by omega
      rw [e, badN, if_neg q2_] at hrr
      subst hrr
      obtain ⟨bv, hbv⟩ : ∃ bv, bv = beforeV ad xs.length := ⟨_, rfl⟩
      rw [← hbv]
      have hgd := hgood.out rfl
      have HG := Lib.hid hgd
      clear hbv hgd hgood hprev HBR e
      go_wp2_with fail
      refine gen2 (w := wr) (G := fun W => Calls _ _ _ W _) fun W hB2 hz k1 k2 => ?_
      have B1 : Below w.heap.size w W := qB.trans (hB2.mono zw)
      have aF := At.new W 77 #[.int .i64 0, .int .i64 0]
      refine (caught_WriteC _ _ none _ (WriteC_any w (some ad) c xs HG.out hx wr.heap.size (wr.heap.size + 1) W.heap.size _ (B1.alloc q2_ _) q2_ q2_ (k1.alloc _) (k2.alloc _) aF)).mono ?_
      rintro en w2 ⟨rfl, w1, ⟨m1, m2⟩, hg⟩
      have zW : W.heap.size ≤ w1.heap.size := by have := m2.size; simp at this; omega
      have n2 := m1.kept hg q2_
      have B2 : Below w.heap.size w w2 := below_kept ((B1.alloc q2_ _).trans m2) hg q2_ q2_
      have hz2 : w.heap.size ≤ w2.heap.size := B2.size
      clear m1 m2 hg k1 k2 aF hB2 hz
      have z2 := n2.lt
      have c0 := (n2.cell 0).trans rfl
      have N2 := Lib.hid n2
      clear n2
      have e1 : errOf none = 0 := rfl
      have e2 : atOf none = 0 := rfl
      go_wp2_with fail
      go_region
      go_wp2
      go_ret3
      rw [HWS.out]
      exact ⟨rfl, (B2.alloc hz2 _).drew⟩
theorem Write_none (A : Option Addr) (c : Nat) (w : World) :
    Calls Tryd.prog 26 #[.slice A 0 c] w fun en w' => en = .returned (.tuple #[.string ⟨#[]⟩, .int .i64 28, .int .i64 0]) ∧ Below w.heap.size w w' := by
  go_enter Tryd.func26, Tryd.ntmps26
  go_wp2
  go_ret3
  exact ⟨rfl, Below.refl _ _⟩
theorem Write_any (A : Option Addr) (c : Nat) (xs : List NodeT) (w : World) (hR : Kd.C kNode w A xs.length xs) (hc : xs.length ≤ c) (hL : Light xs) :
    Calls Tryd.prog 26 #[.slice A xs.length c] w fun en w' => en = .returned (.tuple #[.string (writeS xs).1, .int .i64 (writeS xs).2.1, .int .i64 (writeS xs).2.2]) ∧ Below w.heap.size w w' := by
  by_cases hx : xs.length = 0
  · obtain rfl := List.eq_nil_of_length_eq_zero hx
    exact Write_none A c w
  · exact Write_some A c xs w hR hc hL q2_
theorem C_iso {α β : Type} {d : Kd α} {f : β → α} {w : World} {A : Option Addr} {n : Nat} {xs : List β} (h : Kd.C (Kd.iso d f) w A n xs) : Kd.C d w A n (xs.map f) := by
  obtain ⟨h1, h2, h3⟩ := h
  refine ⟨by rw [List.length_map]; exact h1, h2, fun hn => ?_⟩
  obtain ⟨ad, e, hc⟩ := h3 hn
  refine ⟨ad, e, fun j p hj => ?_⟩
  rw [List.getElem?_map] at hj
  obtain ⟨q, hq, rfl⟩ := Option.map_eq_some_iff.1 hj
  exact hc j q hq
end Go.Proofs.YtogjljpncdmlkaaDoor.W
end
