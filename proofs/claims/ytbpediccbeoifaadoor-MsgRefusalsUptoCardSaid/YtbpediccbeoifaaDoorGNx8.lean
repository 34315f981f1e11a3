-- Written for this claim by a program of this session (wip/tools/p2.py).
import Derived.Test.YtbpediccbeoifaaDoorGNx0
import Derived.Test.YtbpediccbeoifaaDoorGNx1
import Derived.Test.YtbpediccbeoifaaDoorGNx4
import Derived.Test.YtbpediccbeoifaaDoorGNx6
import Derived.Test.YtbpediccbeoifaaDoorGNx7
namespace Go.Proofs.YtbpediccbeoifaaDoor.GN
open Go.RowKit Go.Proofs.YtbpediccbeoifaaDoorW.PrintWords Go.Proofs.YtbpediccbeoifaaDoorW.PrintLast Go.Proofs.YtbpediccbeoifaaDoorW.PrintMore
attribute [local go_sem] max2_int min2_int max_two min_two max_three min_three max_four min_four   -- for this text's walks alone
set_option linter.unusedVariables false
set_option linter.unusedSimpArgs false

attribute [local go_sem high] eqA25
/-! ### rosterref13_SameRequest: function 20 -/
mutual
def rosterref13_SameRequest.j0 : Nat → Bool → Int → Int → Int → ByteArray → Int → ByteArray → ByteArray → ByteArray → Bool → ByteArray → Int → Int → Int → Int → Bool → List (S71) → List ByteArray → ByteArray → List (S73) → List (S75) → ByteArray → Bool → ByteArray → Bool → ByteArray → ByteArray → Bool → Int → List (S52) → Int → Int → Int → ByteArray → Int → ByteArray → ByteArray → ByteArray → Bool → ByteArray → Int → Int → Int → Int → Bool → List (S71) → List ByteArray → ByteArray → List (S73) → List (S75) → ByteArray → Bool → ByteArray → Bool → ByteArray → ByteArray → Bool → Int → List (S52) → Option (Bool)
 | 0, _, _, _, _, _, _, _, _, _, _, _, _, _, _, _, _, _, _, _, _, _, _, _, _, _, _, _, _, _, _, _, _, _, _, _, _, _, _, _, _, _, _, _, _, _, _, _, _, _, _, _, _, _, _, _, _, _, _, _ => none
 | k + 1, x44, x129000, x129001, x129002, x129003, x129004, x129005, x129006, x129007, x129008, x129009, x129010, x129011, x129012, x129013, x129014, x129015, x129016, x129017, x129018, x129019, x129020, x129021, x129022, x129023, x129024, x129025, x129026, x129027, x129028, x130000, x130001, x130002, x130003, x130004, x130005, x130006, x130007, x130008, x130009, x130010, x130011, x130012, x130013, x130014, x130015, x130016, x130017, x130018, x130019, x130020, x130021, x130022, x130023, x130024, x130025, x130026, x130027, x130028 => if x44 = true then (some false) else (if x129022.toList = x130022.toList then (if (x129023 != x130023) = true then (rosterref13_SameRequest.j1 k true x129000 x129001 x129002 x129003 x129004 x129005 x129006 x129007 x129008 x129009 x129010 x129011 x129012 x129013 x129014 x129015 x129016 x129017 x129018 x129019 x129020 x129021 x129022 x129023 x129024 x129025 x129026 x129027 x129028 x130000 x130001 x130002 x130003 x130004 x130005 x130006 x130007 x130008 x130009 x130010 x130011 x130012 x130013 x130014 x130015 x130016 x130017 x130018 x130019 x130020 x130021 x130022 x130023 x130024 x130025 x130026 x130027 x130028) else (if x129024.toList = x130024.toList then (if x129025.toList = x130025.toList then (if (x129026 != x130026) = true then (rosterref13_SameRequest.j1 k true x129000 x129001 x129002 x129003 x129004 x129005 x129006 x129007 x129008 x129009 x129010 x129011 x129012 x129013 x129014 x129015 x129016 x129017 x129018 x129019 x129020 x129021 x129022 x129023 x129024 x129025 x129026 x129027 x129028 x130000 x130001 x130002 x130003 x130004 x130005 x130006 x130007 x130008 x130009 x130010 x130011 x130012 x130013 x130014 x130015 x130016 x130017 x130018 x130019 x130020 x130021 x130022 x130023 x130024 x130025 x130026 x130027 x130028) else (rosterref13_SameRequest.j1 k (x129027 != x130027) x129000 x129001 x129002 x129003 x129004 x129005 x129006 x129007 x129008 x129009 x129010 x129011 x129012 x129013 x129014 x129015 x129016 x129017 x129018 x129019 x129020 x129021 x129022 x129023 x129024 x129025 x129026 x129027 x129028 x130000 x130001 x130002 x130003 x130004 x130005 x130006 x130007 x130008 x130009 x130010 x130011 x130012 x130013 x130014 x130015 x130016 x130017 x130018 x130019 x130020 x130021 x130022 x130023 x130024 x130025 x130026 x130027 x130028)) else (rosterref13_SameRequest.j1 k true x129000 x129001 x129002 x129003 x129004 x129005 x129006 x129007 x129008 x129009 x129010 x129011 x129012 x129013 x129014 x129015 x129016 x129017 x129018 x129019 x129020 x129021 x129022 x129023 x129024 x129025 x129026 x129027 x129028 x130000 x130001 x130002 x130003 x130004 x130005 x130006 x130007 x130008 x130009 x130010 x130011 x130012 x130013 x130014 x130015 x130016 x130017 x130018 x130019 x130020 x130021 x130022 x130023 x130024 x130025 x130026 x130027 x130028)) else (rosterref13_SameRequest.j1 k true x129000 x129001 x129002 x129003 x129004 x129005 x129006 x129007 x129008 x129009 x129010 x129011 x129012 x129013 x129014 x129015 x129016 x129017 x129018 x129019 x129020 x129021 x129022 x129023 x129024 x129025 x129026 x129027 x129028 x130000 x130001 x130002 x130003 x130004 x130005 x130006 x130007 x130008 x130009 x130010 x130011 x130012 x130013 x130014 x130015 x130016 x130017 x130018 x130019 x130020 x130021 x130022 x130023 x130024 x130025 x130026 x130027 x130028))) else (rosterref13_SameRequest.j1 k true x129000 x129001 x129002 x129003 x129004 x129005 x129006 x129007 x129008 x129009 x129010 x129011 x129012 x129013 x129014 x129015 x129016 x129017 x129018 x129019 x129020 x129021 x129022 x129023 x129024 x129025 x129026 x129027 x129028 x130000 x130001 x130002 x130003 x130004 x130005 x130006 x130007 x130008 x130009 x130010 x130011 x130012 x130013 x130014 x130015 x130016 x130017 x130018 x130019 x130020 x130021 x130022 x130023 x130024 x130025 x130026 x130027 x130028))
def rosterref13_SameRequest.j1 : Nat → Bool → Int → Int → Int → ByteArray → Int → ByteArray → ByteArray → ByteArray → Bool → ByteArray → Int → Int → Int → Int → Bool → List (S71) → List ByteArray → ByteArray → List (S73) → List (S75) → ByteArray → Bool → ByteArray → Bool → ByteArray → ByteArray → Bool → Int → List (S52) → Int → Int → Int → ByteArray → Int → ByteArray → ByteArray → ByteArray → Bool → ByteArray → Int → Int → Int → Int → Bool → List (S71) → List ByteArray → ByteArray → List (S73) → List (S75) → ByteArray → Bool → ByteArray → Bool → ByteArray → ByteArray → Bool → Int → List (S52) → Option (Bool)
 | 0, _, _, _, _, _, _, _, _, _, _, _, _, _, _, _, _, _, _, _, _, _, _, _, _, _, _, _, _, _, _, _, _, _, _, _, _, _, _, _, _, _, _, _, _, _, _, _, _, _, _, _, _, _, _, _, _, _, _, _ => none
 | k + 1, x84, x129000, x129001, x129002, x129003, x129004, x129005, x129006, x129007, x129008, x129009, x129010, x129011, x129012, x129013, x129014, x129015, x129016, x129017, x129018, x129019, x129020, x129021, x129022, x129023, x129024, x129025, x129026, x129027, x129028, x130000, x130001, x130002, x130003, x130004, x130005, x130006, x130007, x130008, x130009, x130010, x130011, x130012, x130013, x130014, x130015, x130016, x130017, x130018, x130019, x130020, x130021, x130022, x130023, x130024, x130025, x130026, x130027, x130028 => if x84 = true then (some false) else ((rosterref13_sameSearch.f k x129009 x129010 x129011 x129012 x129013 x129014 x129015 x129016 x130009 x130010 x130011 x130012 x130013 x130014 x130015 x130016).bind fun t130 => (if t130 = true then ((rosterref13_sameChanges.f k x129018 x130018).bind fun t131 => (if t131 = true then ((rosterref13_sameAttrs.f k x129019 x130019).bind fun t132 => (if t132 = true then ((rosterref13_sameControls.f k x129028 x130028).bind fun t133 => (some t133)) else (some false))) else (some false))) else (some false)))
end
def rosterref13_SameRequest.f (k : Nat) (a0_0 : Int) (a0_1 : Int) (a0_2 : Int) (a0_3 : ByteArray) (a0_4 : Int) (a0_5 : ByteArray) (a0_6 : ByteArray) (a0_7 : ByteArray) (a0_8 : Bool) (a0_9 : ByteArray) (a0_10 : Int) (a0_11 : Int) (a0_12 : Int) (a0_13 : Int) (a0_14 : Bool) (l0_15 : List (S71)) (l0_16 : List ByteArray) (a0_17 : ByteArray) (l0_18 : List (S73)) (l0_19 : List (S75)) (a0_20 : ByteArray) (a0_21 : Bool) (a0_22 : ByteArray) (a0_23 : Bool) (a0_24 : ByteArray) (a0_25 : ByteArray) (a0_26 : Bool) (a0_27 : Int) (l0_28 : List (S52)) (a1_0 : Int) (a1_1 : Int) (a1_2 : Int) (a1_3 : ByteArray) (a1_4 : Int) (a1_5 : ByteArray) (a1_6 : ByteArray) (a1_7 : ByteArray) (a1_8 : Bool) (a1_9 : ByteArray) (a1_10 : Int) (a1_11 : Int) (a1_12 : Int) (a1_13 : Int) (a1_14 : Bool) (l1_15 : List (S71)) (l1_16 : List ByteArray) (a1_17 : ByteArray) (l1_18 : List (S73)) (l1_19 : List (S75)) (a1_20 : ByteArray) (a1_21 : Bool) (a1_22 : ByteArray) (a1_23 : Bool) (a1_24 : ByteArray) (a1_25 : ByteArray) (a1_26 : Bool) (a1_27 : Int) (l1_28 : List (S52)) : Option (Bool) := if a0_0 = a1_0 then (if a0_1 = a1_1 then (if (!(a0_2 == a1_2) || (!(a0_3.toList == a1_3.toList) || (!(a0_4 == a1_4) || (!(a0_5.toList == a1_5.toList) || (!(a0_6.toList == a1_6.toList) || (!(a0_7.toList == a1_7.toList) || (!(a0_8 == a1_8)))))))) = true then (rosterref13_SameRequest.j0 k true a0_0 a0_1 a0_2 a0_3 a0_4 a0_5 a0_6 a0_7 a0_8 a0_9 a0_10 a0_11 a0_12 a0_13 a0_14 l0_15 l0_16 a0_17 l0_18 l0_19 a0_20 a0_21 a0_22 a0_23 a0_24 a0_25 a0_26 a0_27 l0_28 a1_0 a1_1 a1_2 a1_3 a1_4 a1_5 a1_6 a1_7 a1_8 a1_9 a1_10 a1_11 a1_12 a1_13 a1_14 l1_15 l1_16 a1_17 l1_18 l1_19 a1_20 a1_21 a1_22 a1_23 a1_24 a1_25 a1_26 a1_27 l1_28) else (if a0_17.toList = a1_17.toList then (if a0_20.toList = a1_20.toList then (rosterref13_SameRequest.j0 k (a0_21 != a1_21) a0_0 a0_1 a0_2 a0_3 a0_4 a0_5 a0_6 a0_7 a0_8 a0_9 a0_10 a0_11 a0_12 a0_13 a0_14 l0_15 l0_16 a0_17 l0_18 l0_19 a0_20 a0_21 a0_22 a0_23 a0_24 a0_25 a0_26 a0_27 l0_28 a1_0 a1_1 a1_2 a1_3 a1_4 a1_5 a1_6 a1_7 a1_8 a1_9 a1_10 a1_11 a1_12 a1_13 a1_14 l1_15 l1_16 a1_17 l1_18 l1_19 a1_20 a1_21 a1_22 a1_23 a1_24 a1_25 a1_26 a1_27 l1_28) else (rosterref13_SameRequest.j0 k true a0_0 a0_1 a0_2 a0_3 a0_4 a0_5 a0_6 a0_7 a0_8 a0_9 a0_10 a0_11 a0_12 a0_13 a0_14 l0_15 l0_16 a0_17 l0_18 l0_19 a0_20 a0_21 a0_22 a0_23 a0_24 a0_25 a0_26 a0_27 l0_28 a1_0 a1_1 a1_2 a1_3 a1_4 a1_5 a1_6 a1_7 a1_8 a1_9 a1_10 a1_11 a1_12 a1_13 a1_14 l1_15 l1_16 a1_17 l1_18 l1_19 a1_20 a1_21 a1_22 a1_23 a1_24 a1_25 a1_26 a1_27 l1_28)) else (rosterref13_SameRequest.j0 k true a0_0 a0_1 a0_2 a0_3 a0_4 a0_5 a0_6 a0_7 a0_8 a0_9 a0_10 a0_11 a0_12 a0_13 a0_14 l0_15 l0_16 a0_17 l0_18 l0_19 a0_20 a0_21 a0_22 a0_23 a0_24 a0_25 a0_26 a0_27 l0_28 a1_0 a1_1 a1_2 a1_3 a1_4 a1_5 a1_6 a1_7 a1_8 a1_9 a1_10 a1_11 a1_12 a1_13 a1_14 l1_15 l1_16 a1_17 l1_18 l1_19 a1_20 a1_21 a1_22 a1_23 a1_24 a1_25 a1_26 a1_27 l1_28))) else (rosterref13_SameRequest.j0 k true a0_0 a0_1 a0_2 a0_3 a0_4 a0_5 a0_6 a0_7 a0_8 a0_9 a0_10 a0_11 a0_12 a0_13 a0_14 l0_15 l0_16 a0_17 l0_18 l0_19 a0_20 a0_21 a0_22 a0_23 a0_24 a0_25 a0_26 a0_27 l0_28 a1_0 a1_1 a1_2 a1_3 a1_4 a1_5 a1_6 a1_7 a1_8 a1_9 a1_10 a1_11 a1_12 a1_13 a1_14 l1_15 l1_16 a1_17 l1_18 l1_19 a1_20 a1_21 a1_22 a1_23 a1_24 a1_25 a1_26 a1_27 l1_28)) else (rosterref13_SameRequest.j0 k true a0_0 a0_1 a0_2 a0_3 a0_4 a0_5 a0_6 a0_7 a0_8 a0_9 a0_10 a0_11 a0_12 a0_13 a0_14 l0_15 l0_16 a0_17 l0_18 l0_19 a0_20 a0_21 a0_22 a0_23 a0_24 a0_25 a0_26 a0_27 l0_28 a1_0 a1_1 a1_2 a1_3 a1_4 a1_5 a1_6 a1_7 a1_8 a1_9 a1_10 a1_11 a1_12 a1_13 a1_14 l1_15 l1_16 a1_17 l1_18 l1_19 a1_20 a1_21 a1_22 a1_23 a1_24 a1_25 a1_26 a1_27 l1_28)
theorem rosterref13_SameRequest.mono_l : ∀ k, (∀ y0 y1 y2 y3 y4 y5 y6 y7 y8 y9 y10 y11 y12 y13 y14 y15 y16 y17 y18 y19 y20 y21 y22 y23 y24 y25 y26 y27 y28 y29 y30 y31 y32 y33 y34 y35 y36 y37 y38 y39 y40 y41 y42 y43 y44 y45 y46 y47 y48 y49 y50 y51 y52 y53 y54 y55 y56 y57 y58, LeO (rosterref13_SameRequest.j0 k y0 y1 y2 y3 y4 y5 y6 y7 y8 y9 y10 y11 y12 y13 y14 y15 y16 y17 y18 y19 y20 y21 y22 y23 y24 y25 y26 y27 y28 y29 y30 y31 y32 y33 y34 y35 y36 y37 y38 y39 y40 y41 y42 y43 y44 y45 y46 y47 y48 y49 y50 y51 y52 y53 y54 y55 y56 y57 y58) (rosterref13_SameRequest.j0 (k + 1) y0 y1 y2 y3 y4 y5 y6 y7 y8 y9 y10 y11 y12 y13 y14 y15 y16 y17 y18 y19 y20 y21 y22 y23 y24 y25 y26 y27 y28 y29 y30 y31 y32 y33 y34 y35 y36 y37 y38 y39 y40 y41 y42 y43 y44 y45 y46 y47 y48 y49 y50 y51 y52 y53 y54 y55 y56 y57 y58)) ∧ (∀ y0 y1 y2 y3 y4 y5 y6 y7 y8 y9 y10 y11 y12 y13 y14 y15 y16 y17 y18 y19 y20 y21 y22 y23 y24 y25 y26 y27 y28 y29 y30 y31 y32 y33 y34 y35 y36 y37 y38 y39 y40 y41 y42 y43 y44 y45 y46 y47 y48 y49 y50 y51 y52 y53 y54 y55 y56 y57 y58, LeO (rosterref13_SameRequest.j1 k y0 y1 y2 y3 y4 y5 y6 y7 y8 y9 y10 y11 y12 y13 y14 y15 y16 y17 y18 y19 y20 y21 y22 y23 y24 y25 y26 y27 y28 y29 y30 y31 y32 y33 y34 y35 y36 y37 y38 y39 y40 y41 y42 y43 y44 y45 y46 y47 y48 y49 y50 y51 y52 y53 y54 y55 y56 y57 y58) (rosterref13_SameRequest.j1 (k + 1) y0 y1 y2 y3 y4 y5 y6 y7 y8 y9 y10 y11 y12 y13 y14 y15 y16 y17 y18 y19 y20 y21 y22 y23 y24 y25 y26 y27 y28 y29 y30 y31 y32 y33 y34 y35 y36 y37 y38 y39 y40 y41 y42 y43 y44 y45 y46 y47 y48 y49 y50 y51 y52 y53 y54 y55 y56 y57 y58))
 | 0 => ⟨fun _ _ _ _ _ _ _ _ _ _ _ _ _ _ _ _ _ _ _ _ _ _ _ _ _ _ _ _ _ _ _ _ _ _ _ _ _ _ _ _ _ _ _ _ _ _ _ _ _ _ _ _ _ _ _ _ _ _ _ r h => by simp [rosterref13_SameRequest.j0] at h, fun _ _ _ _ _ _ _ _ _ _ _ _ _ _ _ _ _ _ _ _ _ _ _ _ _ _ _ _ _ _ _ _ _ _ _ _ _ _ _ _ _ _ _ _ _ _ _ _ _ _ _ _ _ _ _ _ _ _ _ r h => by simp [rosterref13_SameRequest.j1] at h⟩
 | k + 1 => by
  obtain ⟨ih0, ih1⟩ := rosterref13_SameRequest.mono_l k
  refine ⟨?_, ?_⟩
  ·intro y0 y1 y2 y3 y4 y5 y6 y7 y8 y9 y10 y11 y12 y13 y14 y15 y16 y17 y18 y19 y20 y21 y22 y23 y24 y25 y26 y27 y28 y29 y30 y31 y32 y33 y34 y35 y36 y37 y38 y39 y40 y41 y42 y43 y44 y45 y46 y47 y48 y49 y50 y51 y52 y53 y54 y55 y56 y57 y58
   unfold rosterref13_SameRequest.j0
   repeat' first
   | (with_reducible exact ih0 _ _ _ _ _ _ _ _ _ _ _ _ _ _ _ _ _ _ _ _ _ _ _ _ _ _ _ _ _ _ _ _ _ _ _ _ _ _ _ _ _ _ _ _ _ _ _ _ _ _ _ _ _ _ _ _ _ _ _)
   | (with_reducible exact ih1 _ _ _ _ _ _ _ _ _ _ _ _ _ _ _ _ _ _ _ _ _ _ _ _ _ _ _ _ _ _ _ _ _ _ _ _ _ _ _ _ _ _ _ _ _ _ _ _ _ _ _ _ _ _ _ _ _ _ _)
   | (with_reducible exact rosterref13_sameAttrs.mono _ _ _)
   | (with_reducible exact rosterref13_sameChanges.mono _ _ _)
   | (with_reducible exact rosterref13_sameControls.mono _ _ _)
   | (with_reducible exact rosterref13_sameSearch.mono _ _ _ _ _ _ _ _ _ _ _ _ _ _ _ _ _)
   | (with_reducible exact LeO.refl _)
   | (with_reducible exact LeO.none _)
   | (with_reducible refine LeO.ite ?_ ?_)
   | (with_reducible refine LeO.bind ?_ (fun _ => ?_))
   | exact ih0 _ _ _ _ _ _ _ _ _ _ _ _ _ _ _ _ _ _ _ _ _ _ _ _ _ _ _ _ _ _ _ _ _ _ _ _ _ _ _ _ _ _ _ _ _ _ _ _ _ _ _ _ _ _ _ _ _ _ _
   | exact ih1 _ _ _ _ _ _ _ _ _ _ _ _ _ _ _ _ _ _ _ _ _ _ _ _ _ _ _ _ _ _ _ _ _ _ _ _ _ _ _ _ _ _ _ _ _ _ _ _ _ _ _ _ _ _ _ _ _ _ _
   | exact rosterref13_sameAttrs.mono _ _ _
   | exact rosterref13_sameChanges.mono _ _ _
   | exact rosterref13_sameControls.mono _ _ _
   | exact rosterref13_sameSearch.mono _ _ _ _ _ _ _ _ _ _ _ _ _ _ _ _ _
   | exact LeO.none _
   | refine LeO.ite ?_ ?_
   | refine LeO.bind ?_ (fun _ => ?_)
  ·intro y0 y1 y2 y3 y4 y5 y6 y7 y8 y9 y10 y11 y12 y13 y14 y15 y16 y17 y18 y19 y20 y21 y22 y23 y24 y25 y26 y27 y28 y29 y30 y31 y32 y33 y34 y35 y36 y37 y38 y39 y40 y41 y42 y43 y44 y45 y46 y47 y48 y49 y50 y51 y52 y53 y54 y55 y56 y57 y58
   unfold rosterref13_SameRequest.j1
   repeat' first
   | (with_reducible exact ih0 _ _ _ _ _ _ _ _ _ _ _ _ _ _ _ _ _ _ _ _ _ _ _ _ _ _ _ _ _ _ _ _ _ _ _ _ _ _ _ _ _ _ _ _ _ _ _ _ _ _ _ _ _ _ _ _ _ _ _)
   | (with_reducible exact ih1 _ _ _ _ _ _ _ _ _ _ _ _ _ _ _ _ _ _ _ _ _ _ _ _ _ _ _ _ _ _ _ _ _ _ _ _ _ _ _ _ _ _ _ _ _ _ _ _ _ _ _ _ _ _ _ _ _ _ _)
   | (with_reducible exact rosterref13_sameAttrs.mono _ _ _)
   | (with_reducible exact rosterref13_sameChanges.mono _ _ _)
   | (with_reducible exact rosterref13_sameControls.mono _ _ _)
   | (with_reducible exact rosterref13_sameSearch.mono _ _ _ _ _ _ _ _ _ _ _ _ _ _ _ _ _)
   | (with_reducible exact LeO.refl _)
   | (with_reducible exact LeO.none _)
   | (with_reducible refine LeO.ite ?_ ?_)
   | (with_reducible refine LeO.bind ?_ (fun _ => ?_))
   | exact ih0 _ _ _ _ _ _ _ _ _ _ _ _ _ _ _ _ _ _ _ _ _ _ _ _ _ _ _ _ _ _ _ _ _ _ _ _ _ _ _ _ _ _ _ _ _ _ _ _ _ _ _ _ _ _ _ _ _ _ _
   | exact ih1 _ _ _ _ _ _ _ _ _ _ _ _ _ _ _ _ _ _ _ _ _ _ _ _ _ _ _ _ _ _ _ _ _ _ _ _ _ _ _ _ _ _ _ _ _ _ _ _ _ _ _ _ _ _ _ _ _ _ _
   | exact rosterref13_sameAttrs.mono _ _ _
   | exact rosterref13_sameChanges.mono _ _ _
   | exact rosterref13_sameControls.mono _ _ _
   | exact rosterref13_sameSearch.mono _ _ _ _ _ _ _ _ _ _ _ _ _ _ _ _ _
   | exact LeO.none _
   | refine LeO.ite ?_ ?_
   | refine LeO.bind ?_ (fun _ => ?_)
theorem rosterref13_SameRequest.mono : ∀ a0 a1 a2 a3 a4 a5 a6 a7 a8 a9 a10 a11 a12 a13 a14 a15 a16 a17 a18 a19 a20 a21 a22 a23 a24 a25 a26 a27 a28 a29 a30 a31 a32 a33 a34 a35 a36 a37 a38 a39 a40 a41 a42 a43 a44 a45 a46 a47 a48 a49 a50 a51 a52 a53 a54 a55 a56 a57 k, LeO (rosterref13_SameRequest.f k a0 a1 a2 a3 a4 a5 a6 a7 a8 a9 a10 a11 a12 a13 a14 a15 a16 a17 a18 a19 a20 a21 a22 a23 a24 a25 a26 a27 a28 a29 a30 a31 a32 a33 a34 a35 a36 a37 a38 a39 a40 a41 a42 a43 a44 a45 a46 a47 a48 a49 a50 a51 a52 a53 a54 a55 a56 a57) (rosterref13_SameRequest.f (k + 1) a0 a1 a2 a3 a4 a5 a6 a7 a8 a9 a10 a11 a12 a13 a14 a15 a16 a17 a18 a19 a20 a21 a22 a23 a24 a25 a26 a27 a28 a29 a30 a31 a32 a33 a34 a35 a36 a37 a38 a39 a40 a41 a42 a43 a44 a45 a46 a47 a48 a49 a50 a51 a52 a53 a54 a55 a56 a57) := by
 intro a0 a1 a2 a3 a4 a5 a6 a7 a8 a9 a10 a11 a12 a13 a14 a15 a16 a17 a18 a19 a20 a21 a22 a23 a24 a25 a26 a27 a28 a29 a30 a31 a32 a33 a34 a35 a36 a37 a38 a39 a40 a41 a42 a43 a44 a45 a46 a47 a48 a49 a50 a51 a52 a53 a54 a55 a56 a57 k
 obtain ⟨ih0, ih1⟩ := rosterref13_SameRequest.mono_l k
 unfold rosterref13_SameRequest.f
 repeat' first
   | (with_reducible exact ih0 _ _ _ _ _ _ _ _ _ _ _ _ _ _ _ _ _ _ _ _ _ _ _ _ _ _ _ _ _ _ _ _ _ _ _ _ _ _ _ _ _ _ _ _ _ _ _ _ _ _ _ _ _ _ _ _ _ _ _)
   | (with_reducible exact ih1 _ _ _ _ _ _ _ _ _ _ _ _ _ _ _ _ _ _ _ _ _ _ _ _ _ _ _ _ _ _ _ _ _ _ _ _ _ _ _ _ _ _ _ _ _ _ _ _ _ _ _ _ _ _ _ _ _ _ _)
   | (with_reducible exact rosterref13_sameAttrs.mono _ _ _)
   | (with_reducible exact rosterref13_sameChanges.mono _ _ _)
   | (with_reducible exact rosterref13_sameControls.mono _ _ _)
   | (with_reducible exact rosterref13_sameSearch.mono _ _ _ _ _ _ _ _ _ _ _ _ _ _ _ _ _)
   | (with_reducible exact LeO.refl _)
   | (with_reducible exact LeO.none _)
   | (with_reducible refine LeO.ite ?_ ?_)
   | (with_reducible refine LeO.bind ?_ (fun _ => ?_))
   | exact ih0 _ _ _ _ _ _ _ _ _ _ _ _ _ _ _ _ _ _ _ _ _ _ _ _ _ _ _ _ _ _ _ _ _ _ _ _ _ _ _ _ _ _ _ _ _ _ _ _ _ _ _ _ _ _ _ _ _ _ _
   | exact ih1 _ _ _ _ _ _ _ _ _ _ _ _ _ _ _ _ _ _ _ _ _ _ _ _ _ _ _ _ _ _ _ _ _ _ _ _ _ _ _ _ _ _ _ _ _ _ _ _ _ _ _ _ _ _ _ _ _ _ _
   | exact rosterref13_sameAttrs.mono _ _ _
   | exact rosterref13_sameChanges.mono _ _ _
   | exact rosterref13_sameControls.mono _ _ _
   | exact rosterref13_sameSearch.mono _ _ _ _ _ _ _ _ _ _ _ _ _ _ _ _ _
   | exact LeO.none _
   | refine LeO.ite ?_ ?_
   | refine LeO.bind ?_ (fun _ => ?_)
set_option maxHeartbeats 8000000 in
set_option maxRecDepth 100000 in
theorem rosterref13_SameRequest.calls (k : Nat) (a0_0 : Int) (a0_1 : Int) (a0_2 : Int) (a0_3 : ByteArray) (a0_4 : Int) (a0_5 : ByteArray) (a0_6 : ByteArray) (a0_7 : ByteArray) (a0_8 : Bool) (a0_9 : ByteArray) (a0_10 : Int) (a0_11 : Int) (a0_12 : Int) (a0_13 : Int) (a0_14 : Bool) (A0_15 : Option Addr) (c0_15 : Nat) (l0_15 : List (S71)) (A0_16 : Option Addr) (c0_16 : Nat) (l0_16 : List ByteArray) (a0_17 : ByteArray) (A0_18 : Option Addr) (c0_18 : Nat) (l0_18 : List (S73)) (A0_19 : Option Addr) (c0_19 : Nat) (l0_19 : List (S75)) (a0_20 : ByteArray) (a0_21 : Bool) (a0_22 : ByteArray) (a0_23 : Bool) (a0_24 : ByteArray) (a0_25 : ByteArray) (a0_26 : Bool) (a0_27 : Int) (A0_28 : Option Addr) (c0_28 : Nat) (l0_28 : List (S52)) (a1_0 : Int) (a1_1 : Int) (a1_2 : Int) (a1_3 : ByteArray) (a1_4 : Int) (a1_5 : ByteArray) (a1_6 : ByteArray) (a1_7 : ByteArray) (a1_8 : Bool) (a1_9 : ByteArray) (a1_10 : Int) (a1_11 : Int) (a1_12 : Int) (a1_13 : Int) (a1_14 : Bool) (A1_15 : Option Addr) (c1_15 : Nat) (l1_15 : List (S71)) (A1_16 : Option Addr) (c1_16 : Nat) (l1_16 : List ByteArray) (a1_17 : ByteArray) (A1_18 : Option Addr) (c1_18 : Nat) (l1_18 : List (S73)) (A1_19 : Option Addr) (c1_19 : Nat) (l1_19 : List (S75)) (a1_20 : ByteArray) (a1_21 : Bool) (a1_22 : ByteArray) (a1_23 : Bool) (a1_24 : ByteArray) (a1_25 : ByteArray) (a1_26 : Bool) (a1_27 : Int) (A1_28 : Option Addr) (c1_28 : Nat) (l1_28 : List (S52)) (r : Bool) (w : World) (hr0_15 : Kd.C k71 w A0_15 l0_15.length l0_15) (hc0_15 : l0_15.length ≤ c0_15) (hr0_16 : Kd.C Kd.string w A0_16 l0_16.length l0_16) (hc0_16 : l0_16.length ≤ c0_16) (hr0_18 : Kd.C k73 w A0_18 l0_18.length l0_18) (hc0_18 : l0_18.length ≤ c0_18) (hr0_19 : Kd.C k75 w A0_19 l0_19.length l0_19) (hc0_19 : l0_19.length ≤ c0_19) (hr0_28 : Kd.C k52 w A0_28 l0_28.length l0_28) (hc0_28 : l0_28.length ≤ c0_28) (hr1_15 : Kd.C k71 w A1_15 l1_15.length l1_15) (hc1_15 : l1_15.length ≤ c1_15) (hr1_16 : Kd.C Kd.string w A1_16 l1_16.length l1_16) (hc1_16 : l1_16.length ≤ c1_16) (hr1_18 : Kd.C k73 w A1_18 l1_18.length l1_18) (hc1_18 : l1_18.length ≤ c1_18) (hr1_19 : Kd.C k75 w A1_19 l1_19.length l1_19) (hc1_19 : l1_19.length ≤ c1_19) (hr1_28 : Kd.C k52 w A1_28 l1_28.length l1_28) (hc1_28 : l1_28.length ≤ c1_28) (h : rosterref13_SameRequest.f k a0_0 a0_1 a0_2 a0_3 a0_4 a0_5 a0_6 a0_7 a0_8 a0_9 a0_10 a0_11 a0_12 a0_13 a0_14 l0_15 l0_16 a0_17 l0_18 l0_19 a0_20 a0_21 a0_22 a0_23 a0_24 a0_25 a0_26 a0_27 l0_28 a1_0 a1_1 a1_2 a1_3 a1_4 a1_5 a1_6 a1_7 a1_8 a1_9 a1_10 a1_11 a1_12 a1_13 a1_14 l1_15 l1_16 a1_17 l1_18 l1_19 a1_20 a1_21 a1_22 a1_23 a1_24 a1_25 a1_26 a1_27 l1_28 = some r) :
  Calls Tryd.prog 20 #[.agg #[.int .i64 a0_0, .int .i64 a0_1, .int .i64 a0_2, .string a0_3, .int .i64 a0_4, .string a0_5, .string a0_6, .string a0_7, .bool a0_8, .string a0_9, .int .i64 a0_10, .int .i64 a0_11, .int .i64 a0_12, .int .i64 a0_13, .bool a0_14, .slice A0_15 l0_15.length c0_15, .slice A0_16 l0_16.length c0_16, .string a0_17, .slice A0_18 l0_18.length c0_18, .slice A0_19 l0_19.length c0_19, .string a0_20, .bool a0_21, .string a0_22, .bool a0_23, .string a0_24, .string a0_25, .bool a0_26, .int .i64 a0_27, .slice A0_28 l0_28.length c0_28], .agg #[.int .i64 a1_0, .int .i64 a1_1, .int .i64 a1_2, .string a1_3, .int .i64 a1_4, .string a1_5, .string a1_6, .string a1_7, .bool a1_8, .string a1_9, .int .i64 a1_10, .int .i64 a1_11, .int .i64 a1_12, .int .i64 a1_13, .bool a1_14, .slice A1_15 l1_15.length c1_15, .slice A1_16 l1_16.length c1_16, .string a1_17, .slice A1_18 l1_18.length c1_18, .slice A1_19 l1_19.length c1_19, .string a1_20, .bool a1_21, .string a1_22, .bool a1_23, .string a1_24, .string a1_25, .bool a1_26, .int .i64 a1_27, .slice A1_28 l1_28.length c1_28]] w fun e w' => e = .returned (.bool r) ∧ Below w.heap.size w w' := by
 have hu36 := Tryd.underlying36
 have hu25 := Tryd.underlying25
 have hu31 := Tryd.underlying31
 have HR0_15 := Aside0.mk hr0_15
 have HC0_15 := Aside0.mk hc0_15
 clear hr0_15 hc0_15
 have HR0_16 := Aside0.mk hr0_16
 have HC0_16 := Aside0.mk hc0_16
 clear hr0_16 hc0_16
 have HR0_18 := Aside0.mk hr0_18
 have HC0_18 := Aside0.mk hc0_18
 clear hr0_18 hc0_18
 have HR0_19 := Aside0.mk hr0_19
 have HC0_19 := Aside0.mk hc0_19
 clear hr0_19 hc0_19
 have HR0_28 := Aside0.mk hr0_28
 have HC0_28 := Aside0.mk hc0_28
 clear hr0_28 hc0_28
 have HR1_15 := Aside0.mk hr1_15
 have HC1_15 := Aside0.mk hc1_15
 clear hr1_15 hc1_15
 have HR1_16 := Aside0.mk hr1_16
 have HC1_16 := Aside0.mk hc1_16
 clear hr1_16 hc1_16
 have HR1_18 := Aside0.mk hr1_18
 have HC1_18 := Aside0.mk hc1_18
 clear hr1_18 hc1_18
 have HR1_19 := Aside0.mk hr1_19
 have HC1_19 := Aside0.mk hc1_19
 clear hr1_19 hc1_19
 have HR1_28 := Aside0.mk hr1_28
 have HC1_28 := Aside0.mk hc1_28
 clear hr1_28 hc1_28
 have HB := Aside0.mk (Below.refl w.heap.size w)
 have H : (if a0_0 = a1_0 then (if a0_1 = a1_1 then (if (!(a0_2 == a1_2) || (!(a0_3.toList == a1_3.toList) || (!(a0_4 == a1_4) || (!(a0_5.toList == a1_5.toList) || (!(a0_6.toList == a1_6.toList) || (!(a0_7.toList == a1_7.toList) || (!(a0_8 == a1_8)))))))) = true then (rosterref13_SameRequest.j0 k true a0_0 a0_1 a0_2 a0_3 a0_4 a0_5 a0_6 a0_7 a0_8 a0_9 a0_10 a0_11 a0_12 a0_13 a0_14 l0_15 l0_16 a0_17 l0_18 l0_19 a0_20 a0_21 a0_22 a0_23 a0_24 a0_25 a0_26 a0_27 l0_28 a1_0 a1_1 a1_2 a1_3 a1_4 a1_5 a1_6 a1_7 a1_8 a1_9 a1_10 a1_11 a1_12 a1_13 a1_14 l1_15 l1_16 a1_17 l1_18 l1_19 a1_20 a1_21 a1_22 a1_23 a1_24 a1_25 a1_26 a1_27 l1_28) else (if a0_17.toList = a1_17.toList then (if a0_20.toList = a1_20.toList then (rosterref13_SameRequest.j0 k (a0_21 != a1_21) a0_0 a0_1 a0_2 a0_3 a0_4 a0_5 a0_6 a0_7 a0_8 a0_9 a0_10 a0_11 a0_12 a0_13 a0_14 l0_15 l0_16 a0_17 l0_18 l0_19 a0_20 a0_21 a0_22 a0_23 a0_24 a0_25 a0_26 a0_27 l0_28 a1_0 a1_1 a1_2 a1_3 a1_4 a1_5 a1_6 a1_7 a1_8 a1_9 a1_10 a1_11 a1_12 a1_13 a1_14 l1_15 l1_16 a1_17 l1_18 l1_19 a1_20 a1_21 a1_22 a1_23 a1_24 a1_25 a1_26 a1_27 l1_28) else (rosterref13_SameRequest.j0 k true a0_0 a0_1 a0_2 a0_3 a0_4 a0_5 a0_6 a0_7 a0_8 a0_9 a0_10 a0_11 a0_12 a0_13 a0_14 l0_15 l0_16 a0_17 l0_18 l0_19 a0_20 a0_21 a0_22 a0_23 a0_24 a0_25 a0_26 a0_27 l0_28 a1_0 a1_1 a1_2 a1_3 a1_4 a1_5 a1_6 a1_7 a1_8 a1_9 a1_10 a1_11 a1_12 a1_13 a1_14 l1_15 l1_16 a1_17 l1_18 l1_19 a1_20 a1_21 a1_22 a1_23 a1_24 a1_25 a1_26 a1_27 l1_28)) else (rosterref13_SameRequest.j0 k true a0_0 a0_1 a0_2 a0_3 a0_4 a0_5 a0_6 a0_7 a0_8 a0_9 a0_10 a0_11 a0_12 a0_13 a0_14 l0_15 l0_16 a0_17 l0_18 l0_19 a0_20 a0_21 a0_22 a0_23 a0_24 a0_25 a0_26 a0_27 l0_28 a1_0 a1_1 a1_2 a1_3 a1_4 a1_5 a1_6 a1_7 a1_8 a1_9 a1_10 a1_11 a1_12 a1_13 a1_14 l1_15 l1_16 a1_17 l1_18 l1_19 a1_20 a1_21 a1_22 a1_23 a1_24 a1_25 a1_26 a1_27 l1_28))) else (rosterref13_SameRequest.j0 k true a0_0 a0_1 a0_2 a0_3 a0_4 a0_5 a0_6 a0_7 a0_8 a0_9 a0_10 a0_11 a0_12 a0_13 a0_14 l0_15 l0_16 a0_17 l0_18 l0_19 a0_20 a0_21 a0_22 a0_23 a0_24 a0_25 a0_26 a0_27 l0_28 a1_0 a1_1 a1_2 a1_3 a1_4 a1_5 a1_6 a1_7 a1_8 a1_9 a1_10 a1_11 a1_12 a1_13 a1_14 l1_15 l1_16 a1_17 l1_18 l1_19 a1_20 a1_21 a1_22 a1_23 a1_24 a1_25 a1_26 a1_27 l1_28)) else (rosterref13_SameRequest.j0 k true a0_0 a0_1 a0_2 a0_3 a0_4 a0_5 a0_6 a0_7 a0_8 a0_9 a0_10 a0_11 a0_12 a0_13 a0_14 l0_15 l0_16 a0_17 l0_18 l0_19 a0_20 a0_21 a0_22 a0_23 a0_24 a0_25 a0_26 a0_27 l0_28 a1_0 a1_1 a1_2 a1_3 a1_4 a1_5 a1_6 a1_7 a1_8 a1_9 a1_10 a1_11 a1_12 a1_13 a1_14 l1_15 l1_16 a1_17 l1_18 l1_19 a1_20 a1_21 a1_22 a1_23 a1_24 a1_25 a1_26 a1_27 l1_28)) = some r := h
 clear h
 have HC3 := Aside0.mk H
 clear H
 go_enter Tryd.func20, Tryd.ntmps20
 go_upto_region 1 with (first | ((with_reducible refine gate_dst (N := 2) rfl ?_); refine box_event ?hg (N := 2) ?hd (cs := #[.int .i64 a0_0, .int .i64 a0_1, .int .i64 a0_2, .string a0_3, .int .i64 a0_4, .string a0_5, .string a0_6, .string a0_7, .bool a0_8, .string a0_9, .int .i64 a0_10, .int .i64 a0_11, .int .i64 a0_12, .int .i64 a0_13, .bool a0_14, .slice A0_15 l0_15.length c0_15, .slice A0_16 l0_16.length c0_16, .string a0_17, .slice A0_18 l0_18.length c0_18, .slice A0_19 l0_19.length c0_19, .string a0_20, .bool a0_21, .string a0_22, .bool a0_23, .string a0_24, .string a0_25, .bool a0_26, .int .i64 a0_27, .slice A0_28 l0_28.length c0_28]) (t := 36) ?hr ?_; (case hd => rfl); (case hg => rfl); (case hr => first | (go_simp; done) | (go_simp; rfl)); intro gb128 hg w4 hbox hb; have n0_ := Aside0.mk (below_step (by repeat (first | (with_reducible first | exact HB.out | apply below_alloc | apply pw_below_drewN | apply below_drew1) | exact HB.out)) hb); have n1_ := Aside0.mk (hbox); have n2_ := Aside0.mk ((by rw [hg]; exact (below_size (by repeat (first | (with_reducible first | exact HB.out | apply below_alloc | apply pw_below_drewN | apply below_drew1) | exact HB.out))) : w.heap.size ≤ gb128)); have n3_ := Aside0.mk ((by rw [hg]; exact (below_size (by repeat (first | (with_reducible first | exact HB.out | apply below_alloc | apply pw_below_drewN | apply below_drew1) | exact HB.out))) : w.heap.size ≤ gb128)); clear HB; have HB := n0_; have BK128 := n1_; have GW128 := n2_; have GE128 := n3_; clear n0_ n1_ n2_ n3_; clear hb hbox hg) | ((with_reducible refine gate_dst (N := 3) rfl ?_); refine box_event ?hg (N := 3) ?hd (cs := #[.int .i64 a1_0, .int .i64 a1_1, .int .i64 a1_2, .string a1_3, .int .i64 a1_4, .string a1_5, .string a1_6, .string a1_7, .bool a1_8, .string a1_9, .int .i64 a1_10, .int .i64 a1_11, .int .i64 a1_12, .int .i64 a1_13, .bool a1_14, .slice A1_15 l1_15.length c1_15, .slice A1_16 l1_16.length c1_16, .string a1_17, .slice A1_18 l1_18.length c1_18, .slice A1_19 l1_19.length c1_19, .string a1_20, .bool a1_21, .string a1_22, .bool a1_23, .string a1_24, .string a1_25, .bool a1_26, .int .i64 a1_27, .slice A1_28 l1_28.length c1_28]) (t := 36) ?hr ?_; (case hd => rfl); (case hg => rfl); (case hr => first | (go_simp; done) | (go_simp; rfl)); intro gb129 hg w5 hbox hb; have n0_ := Aside0.mk (blk_below (g := gb128) (o := .cells #[.int .i64 a0_0, .int .i64 a0_1, .int .i64 a0_2, .string a0_3, .int .i64 a0_4, .string a0_5, .string a0_6, .string a0_7, .bool a0_8, .string a0_9, .int .i64 a0_10, .int .i64 a0_11, .int .i64 a0_12, .int .i64 a0_13, .bool a0_14, .slice A0_15 l0_15.length c0_15, .slice A0_16 l0_16.length c0_16, .string a0_17, .slice A0_18 l0_18.length c0_18, .slice A0_19 l0_19.length c0_19, .string a0_20, .bool a0_21, .string a0_22, .bool a0_23, .string a0_24, .string a0_25, .bool a0_26, .int .i64 a0_27, .slice A0_28 l0_28.length c0_28] 36 (0, 0)) (by (with_reducible repeat (first | refine blk_drewN ?_ _ | refine blk_drew ?_ | refine blk_alloc ?_ _)); exact BK128.out) hb); have n1_ := Aside0.mk (below_step (by repeat (first | (with_reducible first | exact HB.out | apply below_alloc | apply pw_below_drewN | apply below_drew1 | refine below_set ?_ GE128.out) | exact HB.out)) hb); have n2_ := Aside0.mk (hbox); have n3_ := Aside0.mk ((by rw [hg]; exact (below_size (by repeat (first | (with_reducible first | exact HB.out | apply below_alloc | apply pw_below_drewN | apply below_drew1 | refine below_set ?_ GE128.out) | exact HB.out))) : w.heap.size ≤ gb129)); have n4_ := Aside0.mk ((by rw [hg]; exact (below_size (by repeat (first | (with_reducible first | exact HB.out | apply below_alloc | apply pw_below_drewN | apply below_drew1 | refine below_set ?_ GE128.out) | exact HB.out))) : w.heap.size ≤ gb129)); have n5_ := Aside0.mk ((by rw [hg]; exact Nat.ne_of_lt (blk_lt (g := gb128) (o := .cells #[.int .i64 a0_0, .int .i64 a0_1, .int .i64 a0_2, .string a0_3, .int .i64 a0_4, .string a0_5, .string a0_6, .string a0_7, .bool a0_8, .string a0_9, .int .i64 a0_10, .int .i64 a0_11, .int .i64 a0_12, .int .i64 a0_13, .bool a0_14, .slice A0_15 l0_15.length c0_15, .slice A0_16 l0_16.length c0_16, .string a0_17, .slice A0_18 l0_18.length c0_18, .slice A0_19 l0_19.length c0_19, .string a0_20, .bool a0_21, .string a0_22, .bool a0_23, .string a0_24, .string a0_25, .bool a0_26, .int .i64 a0_27, .slice A0_28 l0_28.length c0_28] 36 (0, 0)) (by (with_reducible repeat (first | refine blk_drewN ?_ _ | refine blk_drew ?_ | refine blk_alloc ?_ _)); exact BK128.out)) : gb128 ≠ gb129)); have n6_ := Aside0.mk ((by rw [hg]; exact Nat.ne_of_gt (blk_lt (g := gb128) (o := .cells #[.int .i64 a0_0, .int .i64 a0_1, .int .i64 a0_2, .string a0_3, .int .i64 a0_4, .string a0_5, .string a0_6, .string a0_7, .bool a0_8, .string a0_9, .int .i64 a0_10, .int .i64 a0_11, .int .i64 a0_12, .int .i64 a0_13, .bool a0_14, .slice A0_15 l0_15.length c0_15, .slice A0_16 l0_16.length c0_16, .string a0_17, .slice A0_18 l0_18.length c0_18, .slice A0_19 l0_19.length c0_19, .string a0_20, .bool a0_21, .string a0_22, .bool a0_23, .string a0_24, .string a0_25, .bool a0_26, .int .i64 a0_27, .slice A0_28 l0_28.length c0_28] 36 (0, 0)) (by (with_reducible repeat (first | refine blk_drewN ?_ _ | refine blk_drew ?_ | refine blk_alloc ?_ _)); exact BK128.out)) : gb129 ≠ gb128)); clear BK128; clear HB; have BK128 := n0_; have HB := n1_; have BK129 := n2_; have GW129 := n3_; have GE129 := n4_; have NB128_129 := n5_; have NB129_128 := n6_; clear n0_ n1_ n2_ n3_ n4_ n5_ n6_; clear hb hbox hg))
 (try simp only [Act.put, List.setIfInBounds_toArray, List.set_cons_zero, List.set_cons_succ])
 go_cut [44] (fun v44 wc => ∃ (kq : Nat) (x44_2 : Bool), v44 = .bool x44_2 ∧ Aside0 (rosterref13_SameRequest.j0 kq x44_2 a0_0 a0_1 a0_2 a0_3 a0_4 a0_5 a0_6 a0_7 a0_8 a0_9 a0_10 a0_11 a0_12 a0_13 a0_14 l0_15 l0_16 a0_17 l0_18 l0_19 a0_20 a0_21 a0_22 a0_23 a0_24 a0_25 a0_26 a0_27 l0_28 a1_0 a1_1 a1_2 a1_3 a1_4 a1_5 a1_6 a1_7 a1_8 a1_9 a1_10 a1_11 a1_12 a1_13 a1_14 l1_15 l1_16 a1_17 l1_18 l1_19 a1_20 a1_21 a1_22 a1_23 a1_24 a1_25 a1_26 a1_27 l1_28 = some r) ∧ Aside0 (kq ≤ k) ∧ Aside0 (wc.heap[gb128]? = some (.cells #[.int .i64 a0_0, .int .i64 a0_1, .int .i64 a0_2, .string a0_3, .int .i64 a0_4, .string a0_5, .string a0_6, .string a0_7, .bool a0_8, .string a0_9, .int .i64 a0_10, .int .i64 a0_11, .int .i64 a0_12, .int .i64 a0_13, .bool a0_14, (.slice A0_15 l0_15.length c0_15), (.slice A0_16 l0_16.length c0_16), .string a0_17, (.slice A0_18 l0_18.length c0_18), (.slice A0_19 l0_19.length c0_19), .string a0_20, .bool a0_21, .string a0_22, .bool a0_23, .string a0_24, .string a0_25, .bool a0_26, .int .i64 a0_27, (.slice A0_28 l0_28.length c0_28)] 36 (0, 0))) ∧ Aside0 (wc.heap[gb129]? = some (.cells #[.int .i64 a1_0, .int .i64 a1_1, .int .i64 a1_2, .string a1_3, .int .i64 a1_4, .string a1_5, .string a1_6, .string a1_7, .bool a1_8, .string a1_9, .int .i64 a1_10, .int .i64 a1_11, .int .i64 a1_12, .int .i64 a1_13, .bool a1_14, (.slice A1_15 l1_15.length c1_15), (.slice A1_16 l1_16.length c1_16), .string a1_17, (.slice A1_18 l1_18.length c1_18), (.slice A1_19 l1_19.length c1_19), .string a1_20, .bool a1_21, .string a1_22, .bool a1_23, .string a1_24, .string a1_25, .bool a1_26, .int .i64 a1_27, (.slice A1_28 l1_28.length c1_28)] 36 (0, 0))) ∧ Aside0 (Below w.heap.size w wc))
 case first =>
  have H := HC3.out
  clear HC3
  by_cases c6 : a0_0 = a1_0
  ·rw [if_pos c6] at H
   have c6b0 : (a0_0 == a1_0) = true := beq_iff_eq.mpr c6
   have c6b1 : (a0_0 != a1_0) = false := bne_eq_false_iff_eq.mpr c6
   clear c6
   (first | rw [c6b0] | (simp only [i64_w, i32_w]; rw [c6b0]) | skip)
   by_cases c7 : a0_1 = a1_1
   ·rw [if_pos c7] at H
    have c7b0 : (a0_1 == a1_1) = true := beq_iff_eq.mpr c7
    have c7b1 : (a0_1 != a1_1) = false := bne_eq_false_iff_eq.mpr c7
    clear c7
    by_cases c8 : (!(a0_2 == a1_2) || (!(a0_3.toList == a1_3.toList) || (!(a0_4 == a1_4) || (!(a0_5.toList == a1_5.toList) || (!(a0_6.toList == a1_6.toList) || (!(a0_7.toList == a1_7.toList) || (!(a0_8 == a1_8)))))))) = true
    ·rw [if_pos c8] at H
     have c8b0 : (!(a0_2 == a1_2) || (!(a0_3.toList == a1_3.toList) || (!(a0_4 == a1_4) || (!(a0_5.toList == a1_5.toList) || (!(a0_6.toList == a1_6.toList) || (!(a0_7.toList == a1_7.toList) || (!(a0_8 == a1_8)))))))) = true := c8
     clear c8
     have H' := Aside0.mk H
     clear H
     have hnb9 := NB128_129.out
     have hnc9 := NB129_128.out
     have hcz10_0 : w5.cell? ⟨gb128, 0, none⟩ = some (.int .i64 a0_0) := (blk_cell BK128.out 0).trans rfl
     have hcz10_1 : w5.cell? ⟨gb128, 1, none⟩ = some (.int .i64 a0_1) := (blk_cell BK128.out 1).trans rfl
     have hcz10_2 : w5.cell? ⟨gb128, 2, none⟩ = some (.int .i64 a0_2) := (blk_cell BK128.out 2).trans rfl
     have hcz10_3 : w5.cell? ⟨gb128, 3, none⟩ = some (.string a0_3) := (blk_cell BK128.out 3).trans rfl
     have hcz10_4 : w5.cell? ⟨gb128, 4, none⟩ = some (.int .i64 a0_4) := (blk_cell BK128.out 4).trans rfl
     have hcz10_5 : w5.cell? ⟨gb128, 5, none⟩ = some (.string a0_5) := (blk_cell BK128.out 5).trans rfl
     have hcz10_6 : w5.cell? ⟨gb128, 6, none⟩ = some (.string a0_6) := (blk_cell BK128.out 6).trans rfl
     have hcz10_7 : w5.cell? ⟨gb128, 7, none⟩ = some (.string a0_7) := (blk_cell BK128.out 7).trans rfl
     have hcz10_8 : w5.cell? ⟨gb128, 8, none⟩ = some (.bool a0_8) := (blk_cell BK128.out 8).trans rfl
     have hcz10_9 : w5.cell? ⟨gb128, 9, none⟩ = some (.string a0_9) := (blk_cell BK128.out 9).trans rfl
     have hcz10_10 : w5.cell? ⟨gb128, 10, none⟩ = some (.int .i64 a0_10) := (blk_cell BK128.out 10).trans rfl
     have hcz10_11 : w5.cell? ⟨gb128, 11, none⟩ = some (.int .i64 a0_11) := (blk_cell BK128.out 11).trans rfl
     have hcz10_12 : w5.cell? ⟨gb128, 12, none⟩ = some (.int .i64 a0_12) := (blk_cell BK128.out 12).trans rfl
     have hcz10_13 : w5.cell? ⟨gb128, 13, none⟩ = some (.int .i64 a0_13) := (blk_cell BK128.out 13).trans rfl
     have hcz10_14 : w5.cell? ⟨gb128, 14, none⟩ = some (.bool a0_14) := (blk_cell BK128.out 14).trans rfl
     have hcz10_15 : w5.cell? ⟨gb128, 15, none⟩ = some (.slice A0_15 l0_15.length c0_15) := (blk_cell BK128.out 15).trans rfl
     have hcz10_16 : w5.cell? ⟨gb128, 16, none⟩ = some (.slice A0_16 l0_16.length c0_16) := (blk_cell BK128.out 16).trans rfl
     have hcz10_17 : w5.cell? ⟨gb128, 17, none⟩ = some (.string a0_17) := (blk_cell BK128.out 17).trans rfl
     have hcz10_18 : w5.cell? ⟨gb128, 18, none⟩ = some (.slice A0_18 l0_18.length c0_18) := (blk_cell BK128.out 18).trans rfl
     have hcz10_19 : w5.cell? ⟨gb128, 19, none⟩ = some (.slice A0_19 l0_19.length c0_19) := (blk_cell BK128.out 19).trans rfl
     have hcz10_20 : w5.cell? ⟨gb128, 20, none⟩ = some (.string a0_20) := (blk_cell BK128.out 20).trans rfl
     have hcz10_21 : w5.cell? ⟨gb128, 21, none⟩ = some (.bool a0_21) := (blk_cell BK128.out 21).trans rfl
     have hcz10_22 : w5.cell? ⟨gb128, 22, none⟩ = some (.string a0_22) := (blk_cell BK128.out 22).trans rfl
     have hcz10_23 : w5.cell? ⟨gb128, 23, none⟩ = some (.bool a0_23) := (blk_cell BK128.out 23).trans rfl
     have hcz10_24 : w5.cell? ⟨gb128, 24, none⟩ = some (.string a0_24) := (blk_cell BK128.out 24).trans rfl
     have hcz10_25 : w5.cell? ⟨gb128, 25, none⟩ = some (.string a0_25) := (blk_cell BK128.out 25).trans rfl
     have hcz10_26 : w5.cell? ⟨gb128, 26, none⟩ = some (.bool a0_26) := (blk_cell BK128.out 26).trans rfl
     have hcz10_27 : w5.cell? ⟨gb128, 27, none⟩ = some (.int .i64 a0_27) := (blk_cell BK128.out 27).trans rfl
     have hcz10_28 : w5.cell? ⟨gb128, 28, none⟩ = some (.slice A0_28 l0_28.length c0_28) := (blk_cell BK128.out 28).trans rfl
     have hfz10_0 := blk_frozen BK128.out 0
     have hfz10_1 := blk_frozen BK128.out 1
     have hfz10_2 := blk_frozen BK128.out 2
     have hfz10_3 := blk_frozen BK128.out 3
     have hfz10_4 := blk_frozen BK128.out 4
     have hfz10_5 := blk_frozen BK128.out 5
     have hfz10_6 := blk_frozen BK128.out 6
     have hfz10_7 := blk_frozen BK128.out 7
     have hfz10_8 := blk_frozen BK128.out 8
     have hfz10_9 := blk_frozen BK128.out 9
     have hfz10_10 := blk_frozen BK128.out 10
     have hfz10_11 := blk_frozen BK128.out 11
     have hfz10_12 := blk_frozen BK128.out 12
     have hfz10_13 := blk_frozen BK128.out 13
     have hfz10_14 := blk_frozen BK128.out 14
     have hfz10_15 := blk_frozen BK128.out 15
     have hfz10_16 := blk_frozen BK128.out 16
     have hfz10_17 := blk_frozen BK128.out 17
     have hfz10_18 := blk_frozen BK128.out 18
     have hfz10_19 := blk_frozen BK128.out 19
     have hfz10_20 := blk_frozen BK128.out 20
     have hfz10_21 := blk_frozen BK128.out 21
     have hfz10_22 := blk_frozen BK128.out 22
     have hfz10_23 := blk_frozen BK128.out 23
     have hfz10_24 := blk_frozen BK128.out 24
     have hfz10_25 := blk_frozen BK128.out 25
     have hfz10_26 := blk_frozen BK128.out 26
     have hfz10_27 := blk_frozen BK128.out 27
     have hfz10_28 := blk_frozen BK128.out 28
     have hcz11_0 : w5.cell? ⟨gb129, 0, none⟩ = some (.int .i64 a1_0) := (blk_cell BK129.out 0).trans rfl
     have hcz11_1 : w5.cell? ⟨gb129, 1, none⟩ = some (.int .i64 a1_1) := (blk_cell BK129.out 1).trans rfl
     have hcz11_2 : w5.cell? ⟨gb129, 2, none⟩ = some (.int .i64 a1_2) := (blk_cell BK129.out 2).trans rfl
     have hcz11_3 : w5.cell? ⟨gb129, 3, none⟩ = some (.string a1_3) := (blk_cell BK129.out 3).trans rfl
     have hcz11_4 : w5.cell? ⟨gb129, 4, none⟩ = some (.int .i64 a1_4) := (blk_cell BK129.out 4).trans rfl
     have hcz11_5 : w5.cell? ⟨gb129, 5, none⟩ = some (.string a1_5) := (blk_cell BK129.out 5).trans rfl
     have hcz11_6 : w5.cell? ⟨gb129, 6, none⟩ = some (.string a1_6) := (blk_cell BK129.out 6).trans rfl
     have hcz11_7 : w5.cell? ⟨gb129, 7, none⟩ = some (.string a1_7) := (blk_cell BK129.out 7).trans rfl
     have hcz11_8 : w5.cell? ⟨gb129, 8, none⟩ = some (.bool a1_8) := (blk_cell BK129.out 8).trans rfl
     have hcz11_9 : w5.cell? ⟨gb129, 9, none⟩ = some (.string a1_9) := (blk_cell BK129.out 9).trans rfl
     have hcz11_10 : w5.cell? ⟨gb129, 10, none⟩ = some (.int .i64 a1_10) := (blk_cell BK129.out 10).trans rfl
     have hcz11_11 : w5.cell? ⟨gb129, 11, none⟩ = some (.int .i64 a1_11) := (blk_cell BK129.out 11).trans rfl
     have hcz11_12 : w5.cell? ⟨gb129, 12, none⟩ = some (.int .i64 a1_12) := (blk_cell BK129.out 12).trans rfl
     have hcz11_13 : w5.cell? ⟨gb129, 13, none⟩ = some (.int .i64 a1_13) := (blk_cell BK129.out 13).trans rfl
     have hcz11_14 : w5.cell? ⟨gb129, 14, none⟩ = some (.bool a1_14) := (blk_cell BK129.out 14).trans rfl
     have hcz11_15 : w5.cell? ⟨gb129, 15, none⟩ = some (.slice A1_15 l1_15.length c1_15) := (blk_cell BK129.out 15).trans rfl
     have hcz11_16 : w5.cell? ⟨gb129, 16, none⟩ = some (.slice A1_16 l1_16.length c1_16) := (blk_cell BK129.out 16).trans rfl
     have hcz11_17 : w5.cell? ⟨gb129, 17, none⟩ = some (.string a1_17) := (blk_cell BK129.out 17).trans rfl
     have hcz11_18 : w5.cell? ⟨gb129, 18, none⟩ = some (.slice A1_18 l1_18.length c1_18) := (blk_cell BK129.out 18).trans rfl
     have hcz11_19 : w5.cell? ⟨gb129, 19, none⟩ = some (.slice A1_19 l1_19.length c1_19) := (blk_cell BK129.out 19).trans rfl
     have hcz11_20 : w5.cell? ⟨gb129, 20, none⟩ = some (.string a1_20) := (blk_cell BK129.out 20).trans rfl
     have hcz11_21 : w5.cell? ⟨gb129, 21, none⟩ = some (.bool a1_21) := (blk_cell BK129.out 21).trans rfl
     have hcz11_22 : w5.cell? ⟨gb129, 22, none⟩ = some (.string a1_22) := (blk_cell BK129.out 22).trans rfl
     have hcz11_23 : w5.cell? ⟨gb129, 23, none⟩ = some (.bool a1_23) := (blk_cell BK129.out 23).trans rfl
     have hcz11_24 : w5.cell? ⟨gb129, 24, none⟩ = some (.string a1_24) := (blk_cell BK129.out 24).trans rfl
     have hcz11_25 : w5.cell? ⟨gb129, 25, none⟩ = some (.string a1_25) := (blk_cell BK129.out 25).trans rfl
     have hcz11_26 : w5.cell? ⟨gb129, 26, none⟩ = some (.bool a1_26) := (blk_cell BK129.out 26).trans rfl
     have hcz11_27 : w5.cell? ⟨gb129, 27, none⟩ = some (.int .i64 a1_27) := (blk_cell BK129.out 27).trans rfl
     have hcz11_28 : w5.cell? ⟨gb129, 28, none⟩ = some (.slice A1_28 l1_28.length c1_28) := (blk_cell BK129.out 28).trans rfl
     have hfz11_0 := blk_frozen BK129.out 0
     have hfz11_1 := blk_frozen BK129.out 1
     have hfz11_2 := blk_frozen BK129.out 2
     have hfz11_3 := blk_frozen BK129.out 3
     have hfz11_4 := blk_frozen BK129.out 4
     have hfz11_5 := blk_frozen BK129.out 5
     have hfz11_6 := blk_frozen BK129.out 6
     have hfz11_7 := blk_frozen BK129.out 7
     have hfz11_8 := blk_frozen BK129.out 8
     have hfz11_9 := blk_frozen BK129.out 9
     have hfz11_10 := blk_frozen BK129.out 10
     have hfz11_11 := blk_frozen BK129.out 11
     have hfz11_12 := blk_frozen BK129.out 12
     have hfz11_13 := blk_frozen BK129.out 13
     have hfz11_14 := blk_frozen BK129.out 14
     have hfz11_15 := blk_frozen BK129.out 15
     have hfz11_16 := blk_frozen BK129.out 16
     have hfz11_17 := blk_frozen BK129.out 17
     have hfz11_18 := blk_frozen BK129.out 18
     have hfz11_19 := blk_frozen BK129.out 19
     have hfz11_20 := blk_frozen BK129.out 20
     have hfz11_21 := blk_frozen BK129.out 21
     have hfz11_22 := blk_frozen BK129.out 22
     have hfz11_23 := blk_frozen BK129.out 23
     have hfz11_24 := blk_frozen BK129.out 24
     have hfz11_25 := blk_frozen BK129.out 25
     have hfz11_26 := blk_frozen BK129.out 26
     have hfz11_27 := blk_frozen BK129.out 27
     have hfz11_28 := blk_frozen BK129.out 28
     go_wp2
     go_meet
     case rel => exact ⟨_, (true), (by first | rfl | (simp; done) | (simp [*]; done) | (simp [isEmpty_ne_]; done)), H', ⟨by first | omega | exact Nat.le_refl _⟩, ⟨by (with_reducible repeat (first | refine blk_drewN ?_ _ | refine blk_drew ?_ | refine blk_alloc ?_ _)); exact BK128.out⟩, ⟨by (with_reducible repeat (first | refine blk_drewN ?_ _ | refine blk_drew ?_ | refine blk_alloc ?_ _)); exact BK129.out⟩, ⟨by repeat (first | (with_reducible first | exact HB.out | apply below_alloc | apply pw_below_drewN | apply below_drew1 | refine below_set ?_ GE128.out | refine below_set ?_ GE129.out) | exact HB.out)⟩⟩
    ·rw [if_neg c8] at H
     have c8b0 : (!(a0_2 == a1_2) || (!(a0_3.toList == a1_3.toList) || (!(a0_4 == a1_4) || (!(a0_5.toList == a1_5.toList) || (!(a0_6.toList == a1_6.toList) || (!(a0_7.toList == a1_7.toList) || (!(a0_8 == a1_8)))))))) = false := by simpa using c8
     clear c8
     by_cases c12 : a0_17.toList = a1_17.toList
     ·rw [if_pos c12] at H
      have c12b0 : (a0_17.toList == a1_17.toList) = true := beq_iff_eq.mpr c12
      have c12b1 : (a0_17.toList != a1_17.toList) = false := bne_eq_false_iff_eq.mpr c12
      clear c12
      by_cases c13 : a0_20.toList = a1_20.toList
      ·rw [if_pos c13] at H
       have c13b0 : (a0_20.toList == a1_20.toList) = true := beq_iff_eq.mpr c13
       have c13b1 : (a0_20.toList != a1_20.toList) = false := bne_eq_false_iff_eq.mpr c13
       clear c13
       have H' := Aside0.mk H
       clear H
       have hnb14 := NB128_129.out
       have hnc14 := NB129_128.out
       have hcz15_0 : w5.cell? ⟨gb128, 0, none⟩ = some (.int .i64 a0_0) := (blk_cell BK128.out 0).trans rfl
       have hcz15_1 : w5.cell? ⟨gb128, 1, none⟩ = some (.int .i64 a0_1) := (blk_cell BK128.out 1).trans rfl
       have hcz15_2 : w5.cell? ⟨gb128, 2, none⟩ = some (.int .i64 a0_2) := (blk_cell BK128.out 2).trans rfl
       have hcz15_3 : w5.cell? ⟨gb128, 3, none⟩ = some (.string a0_3) := (blk_cell BK128.out 3).trans rfl
       have hcz15_4 : w5.cell? ⟨gb128, 4, none⟩ = some (.int .i64 a0_4) := (blk_cell BK128.out 4).trans rfl
       have hcz15_5 : w5.cell? ⟨gb128, 5, none⟩ = some (.string a0_5) := (blk_cell BK128.out 5).trans rfl
       have hcz15_6 : w5.cell? ⟨gb128, 6, none⟩ = some (.string a0_6) := (blk_cell BK128.out 6).trans rfl
       have hcz15_7 : w5.cell? ⟨gb128, 7, none⟩ = some (.string a0_7) := (blk_cell BK128.out 7).trans rfl
       have hcz15_8 : w5.cell? ⟨gb128, 8, none⟩ = some (.bool a0_8) := (blk_cell BK128.out 8).trans rfl
       have hcz15_9 : w5.cell? ⟨gb128, 9, none⟩ = some (.string a0_9) := (blk_cell BK128.out 9).trans rfl
       have hcz15_10 : w5.cell? ⟨gb128, 10, none⟩ = some (.int .i64 a0_10) := (blk_cell BK128.out 10).trans rfl
       have hcz15_11 : w5.cell? ⟨gb128, 11, none⟩ = some (.int .i64 a0_11) := (blk_cell BK128.out 11).trans rfl
       have hcz15_12 : w5.cell? ⟨gb128, 12, none⟩ = some (.int .i64 a0_12) := (blk_cell BK128.out 12).trans rfl
       have hcz15_13 : w5.cell? ⟨gb128, 13, none⟩ = some (.int .i64 a0_13) := (blk_cell BK128.out 13).trans rfl
       have hcz15_14 : w5.cell? ⟨gb128, 14, none⟩ = some (.bool a0_14) := (blk_cell BK128.out 14).trans rfl
       have hcz15_15 : w5.cell? ⟨gb128, 15, none⟩ = some (.slice A0_15 l0_15.length c0_15) := (blk_cell BK128.out 15).trans rfl
       have hcz15_16 : w5.cell? ⟨gb128, 16, none⟩ = some (.slice A0_16 l0_16.length c0_16) := (blk_cell BK128.out 16).trans rfl
       have hcz15_17 : w5.cell? ⟨gb128, 17, none⟩ = some (.string a0_17) := (blk_cell BK128.out 17).trans rfl
       have hcz15_18 : w5.cell? ⟨gb128, 18, none⟩ = some (.slice A0_18 l0_18.length c0_18) := (blk_cell BK128.out 18).trans rfl
       have hcz15_19 : w5.cell? ⟨gb128, 19, none⟩ = some (.slice A0_19 l0_19.length c0_19) := (blk_cell BK128.out 19).trans rfl
       have hcz15_20 : w5.cell? ⟨gb128, 20, none⟩ = some (.string a0_20) := (blk_cell BK128.out 20).trans rfl
       have hcz15_21 : w5.cell? ⟨gb128, 21, none⟩ = some (.bool a0_21) := (blk_cell BK128.out 21).trans rfl
       have hcz15_22 : w5.cell? ⟨gb128, 22, none⟩ = some (.string a0_22) := (blk_cell BK128.out 22).trans rfl
       have hcz15_23 : w5.cell? ⟨gb128, 23, none⟩ = some (.bool a0_23) := (blk_cell BK128.out 23).trans rfl
       have hcz15_24 : w5.cell? ⟨gb128, 24, none⟩ = some (.string a0_24) := (blk_cell BK128.out 24).trans rfl
       have hcz15_25 : w5.cell? ⟨gb128, 25, none⟩ = some (.string a0_25) := (blk_cell BK128.out 25).trans rfl
       have hcz15_26 : w5.cell? ⟨gb128, 26, none⟩ = some (.bool a0_26) := (blk_cell BK128.out 26).trans rfl
       have hcz15_27 : w5.cell? ⟨gb128, 27, none⟩ = some (.int .i64 a0_27) := (blk_cell BK128.out 27).trans rfl
       have hcz15_28 : w5.cell? ⟨gb128, 28, none⟩ = some (.slice A0_28 l0_28.length c0_28) := (blk_cell BK128.out 28).trans rfl
       have hfz15_0 := blk_frozen BK128.out 0
       have hfz15_1 := blk_frozen BK128.out 1
       have hfz15_2 := blk_frozen BK128.out 2
       have hfz15_3 := blk_frozen BK128.out 3
       have hfz15_4 := blk_frozen BK128.out 4
       have hfz15_5 := blk_frozen BK128.out 5
       have hfz15_6 := blk_frozen BK128.out 6
       have hfz15_7 := blk_frozen BK128.out 7
       have hfz15_8 := blk_frozen BK128.out 8
       have hfz15_9 := blk_frozen BK128.out 9
       have hfz15_10 := blk_frozen BK128.out 10
       have hfz15_11 := blk_frozen BK128.out 11
       have hfz15_12 := blk_frozen BK128.out 12
       have hfz15_13 := blk_frozen BK128.out 13
       have hfz15_14 := blk_frozen BK128.out 14
       have hfz15_15 := blk_frozen BK128.out 15
       have hfz15_16 := blk_frozen BK128.out 16
       have hfz15_17 := blk_frozen BK128.out 17
       have hfz15_18 := blk_frozen BK128.out 18
       have hfz15_19 := blk_frozen BK128.out 19
       have hfz15_20 := blk_frozen BK128.out 20
       have hfz15_21 := blk_frozen BK128.out 21
       have hfz15_22 := blk_frozen BK128.out 22
       have hfz15_23 := blk_frozen BK128.out 23
       have hfz15_24 := blk_frozen BK128.out 24
       have hfz15_25 := blk_frozen BK128.out 25
       have hfz15_26 := blk_frozen BK128.out 26
       have hfz15_27 := blk_frozen BK128.out 27
       have hfz15_28 := blk_frozen BK128.out 28
       have hcz16_0 : w5.cell? ⟨gb129, 0, none⟩ = some (.int .i64 a1_0) := (blk_cell BK129.out 0).trans rfl
       have hcz16_1 : w5.cell? ⟨gb129, 1, none⟩ = some (.int .i64 a1_1) := (blk_cell BK129.out 1).trans rfl
       have hcz16_2 : w5.cell? ⟨gb129, 2, none⟩ = some (.int .i64 a1_2) := (blk_cell BK129.out 2).trans rfl
       have hcz16_3 : w5.cell? ⟨gb129, 3, none⟩ = some (.string a1_3) := (blk_cell BK129.out 3).trans rfl
       have hcz16_4 : w5.cell? ⟨gb129, 4, none⟩ = some (.int .i64 a1_4) := (blk_cell BK129.out 4).trans rfl
       have hcz16_5 : w5.cell? ⟨gb129, 5, none⟩ = some (.string a1_5) := (blk_cell BK129.out 5).trans rfl
       have hcz16_6 : w5.cell? ⟨gb129, 6, none⟩ = some (.string a1_6) := (blk_cell BK129.out 6).trans rfl
       have hcz16_7 : w5.cell? ⟨gb129, 7, none⟩ = some (.string a1_7) := (blk_cell BK129.out 7).trans rfl
       have hcz16_8 : w5.cell? ⟨gb129, 8, none⟩ = some (.bool a1_8) := (blk_cell BK129.out 8).trans rfl
       have hcz16_9 : w5.cell? ⟨gb129, 9, none⟩ = some (.string a1_9) := (blk_cell BK129.out 9).trans rfl
       have hcz16_10 : w5.cell? ⟨gb129, 10, none⟩ = some (.int .i64 a1_10) := (blk_cell BK129.out 10).trans rfl
       have hcz16_11 : w5.cell? ⟨gb129, 11, none⟩ = some (.int .i64 a1_11) := (blk_cell BK129.out 11).trans rfl
       have hcz16_12 : w5.cell? ⟨gb129, 12, none⟩ = some (.int .i64 a1_12) := (blk_cell BK129.out 12).trans rfl
       have hcz16_13 : w5.cell? ⟨gb129, 13, none⟩ = some (.int .i64 a1_13) := (blk_cell BK129.out 13).trans rfl
       have hcz16_14 : w5.cell? ⟨gb129, 14, none⟩ = some (.bool a1_14) := (blk_cell BK129.out 14).trans rfl
       have hcz16_15 : w5.cell? ⟨gb129, 15, none⟩ = some (.slice A1_15 l1_15.length c1_15) := (blk_cell BK129.out 15).trans rfl
       have hcz16_16 : w5.cell? ⟨gb129, 16, none⟩ = some (.slice A1_16 l1_16.length c1_16) := (blk_cell BK129.out 16).trans rfl
       have hcz16_17 : w5.cell? ⟨gb129, 17, none⟩ = some (.string a1_17) := (blk_cell BK129.out 17).trans rfl
       have hcz16_18 : w5.cell? ⟨gb129, 18, none⟩ = some (.slice A1_18 l1_18.length c1_18) := (blk_cell BK129.out 18).trans rfl
       have hcz16_19 : w5.cell? ⟨gb129, 19, none⟩ = some (.slice A1_19 l1_19.length c1_19) := (blk_cell BK129.out 19).trans rfl
       have hcz16_20 : w5.cell? ⟨gb129, 20, none⟩ = some (.string a1_20) := (blk_cell BK129.out 20).trans rfl
       have hcz16_21 : w5.cell? ⟨gb129, 21, none⟩ = some (.bool a1_21) := (blk_cell BK129.out 21).trans rfl
       have hcz16_22 : w5.cell? ⟨gb129, 22, none⟩ = some (.string a1_22) := (blk_cell BK129.out 22).trans rfl
       have hcz16_23 : w5.cell? ⟨gb129, 23, none⟩ = some (.bool a1_23) := (blk_cell BK129.out 23).trans rfl
       have hcz16_24 : w5.cell? ⟨gb129, 24, none⟩ = some (.string a1_24) := (blk_cell BK129.out 24).trans rfl
       have hcz16_25 : w5.cell? ⟨gb129, 25, none⟩ = some (.string a1_25) := (blk_cell BK129.out 25).trans rfl
       have hcz16_26 : w5.cell? ⟨gb129, 26, none⟩ = some (.bool a1_26) := (blk_cell BK129.out 26).trans rfl
       have hcz16_27 : w5.cell? ⟨gb129, 27, none⟩ = some (.int .i64 a1_27) := (blk_cell BK129.out 27).trans rfl
       have hcz16_28 : w5.cell? ⟨gb129, 28, none⟩ = some (.slice A1_28 l1_28.length c1_28) := (blk_cell BK129.out 28).trans rfl
       have hfz16_0 := blk_frozen BK129.out 0
       have hfz16_1 := blk_frozen BK129.out 1
       have hfz16_2 := blk_frozen BK129.out 2
       have hfz16_3 := blk_frozen BK129.out 3
       have hfz16_4 := blk_frozen BK129.out 4
       have hfz16_5 := blk_frozen BK129.out 5
       have hfz16_6 := blk_frozen BK129.out 6
       have hfz16_7 := blk_frozen BK129.out 7
       have hfz16_8 := blk_frozen BK129.out 8
       have hfz16_9 := blk_frozen BK129.out 9
       have hfz16_10 := blk_frozen BK129.out 10
       have hfz16_11 := blk_frozen BK129.out 11
       have hfz16_12 := blk_frozen BK129.out 12
       have hfz16_13 := blk_frozen BK129.out 13
       have hfz16_14 := blk_frozen BK129.out 14
       have hfz16_15 := blk_frozen BK129.out 15
       have hfz16_16 := blk_frozen BK129.out 16
       have hfz16_17 := blk_frozen BK129.out 17
       have hfz16_18 := blk_frozen BK129.out 18
       have hfz16_19 := blk_frozen BK129.out 19
       have hfz16_20 := blk_frozen BK129.out 20
       have hfz16_21 := blk_frozen BK129.out 21
       have hfz16_22 := blk_frozen BK129.out 22
       have hfz16_23 := blk_frozen BK129.out 23
       have hfz16_24 := blk_frozen BK129.out 24
       have hfz16_25 := blk_frozen BK129.out 25
       have hfz16_26 := blk_frozen BK129.out 26
       have hfz16_27 := blk_frozen BK129.out 27
       have hfz16_28 := blk_frozen BK129.out 28
       go_wp2
       go_meet
       case rel => exact ⟨_, ((a0_21 != a1_21)), (by first | rfl | (simp; done) | (simp [*]; done) | (simp [isEmpty_ne_]; done)), H', ⟨by first | omega | exact Nat.le_refl _⟩, ⟨by (with_reducible repeat (first | refine blk_drewN ?_ _ | refine blk_drew ?_ | refine blk_alloc ?_ _)); exact BK128.out⟩, ⟨by (with_reducible repeat (first | refine blk_drewN ?_ _ | refine blk_drew ?_ | refine blk_alloc ?_ _)); exact BK129.out⟩, ⟨by repeat (first | (with_reducible first | exact HB.out | apply below_alloc | apply pw_below_drewN | apply below_drew1 | refine below_set ?_ GE128.out | refine below_set ?_ GE129.out) | exact HB.out)⟩⟩
      ·rw [if_neg c13] at H
       have c13b0 : (a0_20.toList == a1_20.toList) = false := beq_eq_false_iff_ne.mpr c13
       have c13b1 : (a0_20.toList != a1_20.toList) = true := bne_iff_ne.mpr c13
       have H' := Aside0.mk H
       clear H
       have hnb17 := NB128_129.out
       have hnc17 := NB129_128.out
       have hcz18_0 : w5.cell? ⟨gb128, 0, none⟩ = some (.int .i64 a0_0) := (blk_cell BK128.out 0).trans rfl
       have hcz18_1 : w5.cell? ⟨gb128, 1, none⟩ = some (.int .i64 a0_1) := (blk_cell BK128.out 1).trans rfl
       have hcz18_2 : w5.cell? ⟨gb128, 2, none⟩ = some (.int .i64 a0_2) := (blk_cell BK128.out 2).trans rfl
       have hcz18_3 : w5.cell? ⟨gb128, 3, none⟩ = some (.string a0_3) := (blk_cell BK128.out 3).trans rfl
       have hcz18_4 : w5.cell? ⟨gb128, 4, none⟩ = some (.int .i64 a0_4) := (blk_cell BK128.out 4).trans rfl
       have hcz18_5 : w5.cell? ⟨gb128, 5, none⟩ = some (.string a0_5) := (blk_cell BK128.out 5).trans rfl
       have hcz18_6 : w5.cell? ⟨gb128, 6, none⟩ = some (.string a0_6) := (blk_cell BK128.out 6).trans rfl
       have hcz18_7 : w5.cell? ⟨gb128, 7, none⟩ = some (.string a0_7) := (blk_cell BK128.out 7).trans rfl
       have hcz18_8 : w5.cell? ⟨gb128, 8, none⟩ = some (.bool a0_8) := (blk_cell BK128.out 8).trans rfl
       have hcz18_9 : w5.cell? ⟨gb128, 9, none⟩ = some (.string a0_9) := (blk_cell BK128.out 9).trans rfl
       have hcz18_10 : w5.cell? ⟨gb128, 10, none⟩ = some (.int .i64 a0_10) := (blk_cell BK128.out 10).trans rfl
       have hcz18_11 : w5.cell? ⟨gb128, 11, none⟩ = some (.int .i64 a0_11) := (blk_cell BK128.out 11).trans rfl
       have hcz18_12 : w5.cell? ⟨gb128, 12, none⟩ = some (.int .i64 a0_12) := (blk_cell BK128.out 12).trans rfl
       have hcz18_13 : w5.cell? ⟨gb128, 13, none⟩ = some (.int .i64 a0_13) := (blk_cell BK128.out 13).trans rfl
       have hcz18_14 : w5.cell? ⟨gb128, 14, none⟩ = some (.bool a0_14) := (blk_cell BK128.out 14).trans rfl
       have hcz18_15 : w5.cell? ⟨gb128, 15, none⟩ = some (.slice A0_15 l0_15.length c0_15) := (blk_cell BK128.out 15).trans rfl
       have hcz18_16 : w5.cell? ⟨gb128, 16, none⟩ = some (.slice A0_16 l0_16.length c0_16) := (blk_cell BK128.out 16).trans rfl
       have hcz18_17 : w5.cell? ⟨gb128, 17, none⟩ = some (.string a0_17) := (blk_cell BK128.out 17).trans rfl
       have hcz18_18 : w5.cell? ⟨gb128, 18, none⟩ = some (.slice A0_18 l0_18.length c0_18) := (blk_cell BK128.out 18).trans rfl
       have hcz18_19 : w5.cell? ⟨gb128, 19, none⟩ = some (.slice A0_19 l0_19.length c0_19) := (blk_cell BK128.out 19).trans rfl
       have hcz18_20 : w5.cell? ⟨gb128, 20, none⟩ = some (.string a0_20) := (blk_cell BK128.out 20).trans rfl
       have hcz18_21 : w5.cell? ⟨gb128, 21, none⟩ = some (.bool a0_21) := (blk_cell BK128.out 21).trans rfl
       have hcz18_22 : w5.cell? ⟨gb128, 22, none⟩ = some (.string a0_22) := (blk_cell BK128.out 22).trans rfl
       have hcz18_23 : w5.cell? ⟨gb128, 23, none⟩ = some (.bool a0_23) := (blk_cell BK128.out 23).trans rfl
       have hcz18_24 : w5.cell? ⟨gb128, 24, none⟩ = some (.string a0_24) := (blk_cell BK128.out 24).trans rfl
       have hcz18_25 : w5.cell? ⟨gb128, 25, none⟩ = some (.string a0_25) := (blk_cell BK128.out 25).trans rfl
       have hcz18_26 : w5.cell? ⟨gb128, 26, none⟩ = some (.bool a0_26) := (blk_cell BK128.out 26).trans rfl
       have hcz18_27 : w5.cell? ⟨gb128, 27, none⟩ = some (.int .i64 a0_27) := (blk_cell BK128.out 27).trans rfl
       have hcz18_28 : w5.cell? ⟨gb128, 28, none⟩ = some (.slice A0_28 l0_28.length c0_28) := (blk_cell BK128.out 28).trans rfl
       have hfz18_0 := blk_frozen BK128.out 0
       have hfz18_1 := blk_frozen BK128.out 1
       have hfz18_2 := blk_frozen BK128.out 2
       have hfz18_3 := blk_frozen BK128.out 3
       have hfz18_4 := blk_frozen BK128.out 4
       have hfz18_5 := blk_frozen BK128.out 5
       have hfz18_6 := blk_frozen BK128.out 6
       have hfz18_7 := blk_frozen BK128.out 7
       have hfz18_8 := blk_frozen BK128.out 8
       have hfz18_9 := blk_frozen BK128.out 9
       have hfz18_10 := blk_frozen BK128.out 10
       have hfz18_11 := blk_frozen BK128.out 11
       have hfz18_12 := blk_frozen BK128.out 12
       have hfz18_13 := blk_frozen BK128.out 13
       have hfz18_14 := blk_frozen BK128.out 14
       have hfz18_15 := blk_frozen BK128.out 15
       have hfz18_16 := blk_frozen BK128.out 16
       have hfz18_17 := blk_frozen BK128.out 17
       have hfz18_18 := blk_frozen BK128.out 18
       have hfz18_19 := blk_frozen BK128.out 19
       have hfz18_20 := blk_frozen BK128.out 20
       have hfz18_21 := blk_frozen BK128.out 21
       have hfz18_22 := blk_frozen BK128.out 22
       have hfz18_23 := blk_frozen BK128.out 23
       have hfz18_24 := blk_frozen BK128.out 24
       have hfz18_25 := blk_frozen BK128.out 25
       have hfz18_26 := blk_frozen BK128.out 26
       have hfz18_27 := blk_frozen BK128.out 27
       have hfz18_28 := blk_frozen BK128.out 28
       have hcz19_0 : w5.cell? ⟨gb129, 0, none⟩ = some (.int .i64 a1_0) := (blk_cell BK129.out 0).trans rfl
       have hcz19_1 : w5.cell? ⟨gb129, 1, none⟩ = some (.int .i64 a1_1) := (blk_cell BK129.out 1).trans rfl
       have hcz19_2 : w5.cell? ⟨gb129, 2, none⟩ = some (.int .i64 a1_2) := (blk_cell BK129.out 2).trans rfl
       have hcz19_3 : w5.cell? ⟨gb129, 3, none⟩ = some (.string a1_3) := (blk_cell BK129.out 3).trans rfl
       have hcz19_4 : w5.cell? ⟨gb129, 4, none⟩ = some (.int .i64 a1_4) := (blk_cell BK129.out 4).trans rfl
       have hcz19_5 : w5.cell? ⟨gb129, 5, none⟩ = some (.string a1_5) := (blk_cell BK129.out 5).trans rfl
       have hcz19_6 : w5.cell? ⟨gb129, 6, none⟩ = some (.string a1_6) := (blk_cell BK129.out 6).trans rfl
       have hcz19_7 : w5.cell? ⟨gb129, 7, none⟩ = some (.string a1_7) := (blk_cell BK129.out 7).trans rfl
       have hcz19_8 : w5.cell? ⟨gb129, 8, none⟩ = some (.bool a1_8) := (blk_cell BK129.out 8).trans rfl
       have hcz19_9 : w5.cell? ⟨gb129, 9, none⟩ = some (.string a1_9) := (blk_cell BK129.out 9).trans rfl
       have hcz19_10 : w5.cell? ⟨gb129, 10, none⟩ = some (.int .i64 a1_10) := (blk_cell BK129.out 10).trans rfl
       have hcz19_11 : w5.cell? ⟨gb129, 11, none⟩ = some (.int .i64 a1_11) := (blk_cell BK129.out 11).trans rfl
       have hcz19_12 : w5.cell? ⟨gb129, 12, none⟩ = some (.int .i64 a1_12) := (blk_cell BK129.out 12).trans rfl
       have hcz19_13 : w5.cell? ⟨gb129, 13, none⟩ = some (.int .i64 a1_13) := (blk_cell BK129.out 13).trans rfl
       have hcz19_14 : w5.cell? ⟨gb129, 14, none⟩ = some (.bool a1_14) := (blk_cell BK129.out 14).trans rfl
       have hcz19_15 : w5.cell? ⟨gb129, 15, none⟩ = some (.slice A1_15 l1_15.length c1_15) := (blk_cell BK129.out 15).trans rfl
       have hcz19_16 : w5.cell? ⟨gb129, 16, none⟩ = some (.slice A1_16 l1_16.length c1_16) := (blk_cell BK129.out 16).trans rfl
       have hcz19_17 : w5.cell? ⟨gb129, 17, none⟩ = some (.string a1_17) := (blk_cell BK129.out 17).trans rfl
       have hcz19_18 : w5.cell? ⟨gb129, 18, none⟩ = some (.slice A1_18 l1_18.length c1_18) := (blk_cell BK129.out 18).trans rfl
       have hcz19_19 : w5.cell? ⟨gb129, 19, none⟩ = some (.slice A1_19 l1_19.length c1_19) := (blk_cell BK129.out 19).trans rfl
       have hcz19_20 : w5.cell? ⟨gb129, 20, none⟩ = some (.string a1_20) := (blk_cell BK129.out 20).trans rfl
       have hcz19_21 : w5.cell? ⟨gb129, 21, none⟩ = some (.bool a1_21) := (blk_cell BK129.out 21).trans rfl
       have hcz19_22 : w5.cell? ⟨gb129, 22, none⟩ = some (.string a1_22) := (blk_cell BK129.out 22).trans rfl
       have hcz19_23 : w5.cell? ⟨gb129, 23, none⟩ = some (.bool a1_23) := (blk_cell BK129.out 23).trans rfl
       have hcz19_24 : w5.cell? ⟨gb129, 24, none⟩ = some (.string a1_24) := (blk_cell BK129.out 24).trans rfl
       have hcz19_25 : w5.cell? ⟨gb129, 25, none⟩ = some (.string a1_25) := (blk_cell BK129.out 25).trans rfl
       have hcz19_26 : w5.cell? ⟨gb129, 26, none⟩ = some (.bool a1_26) := (blk_cell BK129.out 26).trans rfl
       have hcz19_27 : w5.cell? ⟨gb129, 27, none⟩ = some (.int .i64 a1_27) := (blk_cell BK129.out 27).trans rfl
       have hcz19_28 : w5.cell? ⟨gb129, 28, none⟩ = some (.slice A1_28 l1_28.length c1_28) := (blk_cell BK129.out 28).trans rfl
       have hfz19_0 := blk_frozen BK129.out 0
       have hfz19_1 := blk_frozen BK129.out 1
       have hfz19_2 := blk_frozen BK129.out 2
       have hfz19_3 := blk_frozen BK129.out 3
       have hfz19_4 := blk_frozen BK129.out 4
       have hfz19_5 := blk_frozen BK129.out 5
       have hfz19_6 := blk_frozen BK129.out 6
       have hfz19_7 := blk_frozen BK129.out 7
       have hfz19_8 := blk_frozen BK129.out 8
       have hfz19_9 := blk_frozen BK129.out 9
       have hfz19_10 := blk_frozen BK129.out 10
       have hfz19_11 := blk_frozen BK129.out 11
       have hfz19_12 := blk_frozen BK129.out 12
       have hfz19_13 := blk_frozen BK129.out 13
       have hfz19_14 := blk_frozen BK129.out 14
       have hfz19_15 := blk_frozen BK129.out 15
       have hfz19_16 := blk_frozen BK129.out 16
       have hfz19_17 := blk_frozen BK129.out 17
       have hfz19_18 := blk_frozen BK129.out 18
       have hfz19_19 := blk_frozen BK129.out 19
       have hfz19_20 := blk_frozen BK129.out 20
       have hfz19_21 := blk_frozen BK129.out 21
       have hfz19_22 := blk_frozen BK129.out 22
       have hfz19_23 := blk_frozen BK129.out 23
       have hfz19_24 := blk_frozen BK129.out 24
       have hfz19_25 := blk_frozen BK129.out 25
       have hfz19_26 := blk_frozen BK129.out 26
       have hfz19_27 := blk_frozen BK129.out 27
       have hfz19_28 := blk_frozen BK129.out 28
       go_wp2
       go_meet
       case rel => exact ⟨_, (true), (by first | rfl | (simp; done) | (simp [*]; done) | (simp [isEmpty_ne_]; done)), H', ⟨by first | omega | exact Nat.le_refl _⟩, ⟨by (with_reducible repeat (first | refine blk_drewN ?_ _ | refine blk_drew ?_ | refine blk_alloc ?_ _)); exact BK128.out⟩, ⟨by (with_reducible repeat (first | refine blk_drewN ?_ _ | refine blk_drew ?_ | refine blk_alloc ?_ _)); exact BK129.out⟩, ⟨by repeat (first | (with_reducible first | exact HB.out | apply below_alloc | apply pw_below_drewN | apply below_drew1 | refine below_set ?_ GE128.out | refine below_set ?_ GE129.out) | exact HB.out)⟩⟩
     ·rw [if_neg c12] at H
      have c12b0 : (a0_17.toList == a1_17.toList) = false := beq_eq_false_iff_ne.mpr c12
      have c12b1 : (a0_17.toList != a1_17.toList) = true := bne_iff_ne.mpr c12
      have H' := Aside0.mk H
      clear H
      have hnb20 := NB128_129.out
      have hnc20 := NB129_128.out
      have hcz21_0 : w5.cell? ⟨gb128, 0, none⟩ = some (.int .i64 a0_0) := (blk_cell BK128.out 0).trans rfl
      have hcz21_1 : w5.cell? ⟨gb128, 1, none⟩ = some (.int .i64 a0_1) := (blk_cell BK128.out 1).trans rfl
      have hcz21_2 : w5.cell? ⟨gb128, 2, none⟩ = some (.int .i64 a0_2) := (blk_cell BK128.out 2).trans rfl
      have hcz21_3 : w5.cell? ⟨gb128, 3, none⟩ = some (.string a0_3) := (blk_cell BK128.out 3).trans rfl
      have hcz21_4 : w5.cell? ⟨gb128, 4, none⟩ = some (.int .i64 a0_4) := (blk_cell BK128.out 4).trans rfl
      have hcz21_5 : w5.cell? ⟨gb128, 5, none⟩ = some (.string a0_5) := (blk_cell BK128.out 5).trans rfl
      have hcz21_6 : w5.cell? ⟨gb128, 6, none⟩ = some (.string a0_6) := (blk_cell BK128.out 6).trans rfl
      have hcz21_7 : w5.cell? ⟨gb128, 7, none⟩ = some (.string a0_7) := (blk_cell BK128.out 7).trans rfl
      have hcz21_8 : w5.cell? ⟨gb128, 8, none⟩ = some (.bool a0_8) := (blk_cell BK128.out 8).trans rfl
      have hcz21_9 : w5.cell? ⟨gb128, 9, none⟩ = some (.string a0_9) := (blk_cell BK128.out 9).trans rfl
      have hcz21_10 : w5.cell? ⟨gb128, 10, none⟩ = some (.int .i64 a0_10) := (blk_cell BK128.out 10).trans rfl
      have hcz21_11 : w5.cell? ⟨gb128, 11, none⟩ = some (.int .i64 a0_11) := (blk_cell BK128.out 11).trans rfl
      have hcz21_12 : w5.cell? ⟨gb128, 12, none⟩ = some (.int .i64 a0_12) := (blk_cell BK128.out 12).trans rfl
      have hcz21_13 : w5.cell? ⟨gb128, 13, none⟩ = some (.int .i64 a0_13) := (blk_cell BK128.out 13).trans rfl
      have hcz21_14 : w5.cell? ⟨gb128, 14, none⟩ = some (.bool a0_14) := (blk_cell BK128.out 14).trans rfl
      have hcz21_15 : w5.cell? ⟨gb128, 15, none⟩ = some (.slice A0_15 l0_15.length c0_15) := (blk_cell BK128.out 15).trans rfl
      have hcz21_16 : w5.cell? ⟨gb128, 16, none⟩ = some (.slice A0_16 l0_16.length c0_16) := (blk_cell BK128.out 16).trans rfl
      have hcz21_17 : w5.cell? ⟨gb128, 17, none⟩ = some (.string a0_17) := (blk_cell BK128.out 17).trans rfl
      have hcz21_18 : w5.cell? ⟨gb128, 18, none⟩ = some (.slice A0_18 l0_18.length c0_18) := (blk_cell BK128.out 18).trans rfl
      have hcz21_19 : w5.cell? ⟨gb128, 19, none⟩ = some (.slice A0_19 l0_19.length c0_19) := (blk_cell BK128.out 19).trans rfl
      have hcz21_20 : w5.cell? ⟨gb128, 20, none⟩ = some (.string a0_20) := (blk_cell BK128.out 20).trans rfl
      have hcz21_21 : w5.cell? ⟨gb128, 21, none⟩ = some (.bool a0_21) := (blk_cell BK128.out 21).trans rfl
      have hcz21_22 : w5.cell? ⟨gb128, 22, none⟩ = some (.string a0_22) := (blk_cell BK128.out 22).trans rfl
      have hcz21_23 : w5.cell? ⟨gb128, 23, none⟩ = some (.bool a0_23) := (blk_cell BK128.out 23).trans rfl
      have hcz21_24 : w5.cell? ⟨gb128, 24, none⟩ = some (.string a0_24) := (blk_cell BK128.out 24).trans rfl
      have hcz21_25 : w5.cell? ⟨gb128, 25, none⟩ = some (.string a0_25) := (blk_cell BK128.out 25).trans rfl
      have hcz21_26 : w5.cell? ⟨gb128, 26, none⟩ = some (.bool a0_26) := (blk_cell BK128.out 26).trans rfl
      have hcz21_27 : w5.cell? ⟨gb128, 27, none⟩ = some (.int .i64 a0_27) := (blk_cell BK128.out 27).trans rfl
      have hcz21_28 : w5.cell? ⟨gb128, 28, none⟩ = some (.slice A0_28 l0_28.length c0_28) := (blk_cell BK128.out 28).trans rfl
      have hfz21_0 := blk_frozen BK128.out 0
      have hfz21_1 := blk_frozen BK128.out 1
      have hfz21_2 := blk_frozen BK128.out 2
      have hfz21_3 := blk_frozen BK128.out 3
      have hfz21_4 := blk_frozen BK128.out 4
      have hfz21_5 := blk_frozen BK128.out 5
      have hfz21_6 := blk_frozen BK128.out 6
      have hfz21_7 := blk_frozen BK128.out 7
      have hfz21_8 := blk_frozen BK128.out 8
      have hfz21_9 := blk_frozen BK128.out 9
      have hfz21_10 := blk_frozen BK128.out 10
      have hfz21_11 := blk_frozen BK128.out 11
      have hfz21_12 := blk_frozen BK128.out 12
      have hfz21_13 := blk_frozen BK128.out 13
      have hfz21_14 := blk_frozen BK128.out 14
      have hfz21_15 := blk_frozen BK128.out 15
      have hfz21_16 := blk_frozen BK128.out 16
      have hfz21_17 := blk_frozen BK128.out 17
      have hfz21_18 := blk_frozen BK128.out 18
      have hfz21_19 := blk_frozen BK128.out 19
      have hfz21_20 := blk_frozen BK128.out 20
      have hfz21_21 := blk_frozen BK128.out 21
      have hfz21_22 := blk_frozen BK128.out 22
      have hfz21_23 := blk_frozen BK128.out 23
      have hfz21_24 := blk_frozen BK128.out 24
      have hfz21_25 := blk_frozen BK128.out 25
      have hfz21_26 := blk_frozen BK128.out 26
      have hfz21_27 := blk_frozen BK128.out 27
      have hfz21_28 := blk_frozen BK128.out 28
      have hcz22_0 : w5.cell? ⟨gb129, 0, none⟩ = some (.int .i64 a1_0) := (blk_cell BK129.out 0).trans rfl
      have hcz22_1 : w5.cell? ⟨gb129, 1, none⟩ = some (.int .i64 a1_1) := (blk_cell BK129.out 1).trans rfl
      have hcz22_2 : w5.cell? ⟨gb129, 2, none⟩ = some (.int .i64 a1_2) := (blk_cell BK129.out 2).trans rfl
      have hcz22_3 : w5.cell? ⟨gb129, 3, none⟩ = some (.string a1_3) := (blk_cell BK129.out 3).trans rfl
      have hcz22_4 : w5.cell? ⟨gb129, 4, none⟩ = some (.int .i64 a1_4) := (blk_cell BK129.out 4).trans rfl
      have hcz22_5 : w5.cell? ⟨gb129, 5, none⟩ = some (.string a1_5) := (blk_cell BK129.out 5).trans rfl
      have hcz22_6 : w5.cell? ⟨gb129, 6, none⟩ = some (.string a1_6) := (blk_cell BK129.out 6).trans rfl
      have hcz22_7 : w5.cell? ⟨gb129, 7, none⟩ = some (.string a1_7) := (blk_cell BK129.out 7).trans rfl
      have hcz22_8 : w5.cell? ⟨gb129, 8, none⟩ = some (.bool a1_8) := (blk_cell BK129.out 8).trans rfl
      have hcz22_9 : w5.cell? ⟨gb129, 9, none⟩ = some (.string a1_9) := (blk_cell BK129.out 9).trans rfl
      have hcz22_10 : w5.cell? ⟨gb129, 10, none⟩ = some (.int .i64 a1_10) := (blk_cell BK129.out 10).trans rfl
      have hcz22_11 : w5.cell? ⟨gb129, 11, none⟩ = some (.int .i64 a1_11) := (blk_cell BK129.out 11).trans rfl
      have hcz22_12 : w5.cell? ⟨gb129, 12, none⟩ = some (.int .i64 a1_12) := (blk_cell BK129.out 12).trans rfl
      have hcz22_13 : w5.cell? ⟨gb129, 13, none⟩ = some (.int .i64 a1_13) := (blk_cell BK129.out 13).trans rfl
      have hcz22_14 : w5.cell? ⟨gb129, 14, none⟩ = some (.bool a1_14) := (blk_cell BK129.out 14).trans rfl
      have hcz22_15 : w5.cell? ⟨gb129, 15, none⟩ = some (.slice A1_15 l1_15.length c1_15) := (blk_cell BK129.out 15).trans rfl
      have hcz22_16 : w5.cell? ⟨gb129, 16, none⟩ = some (.slice A1_16 l1_16.length c1_16) := (blk_cell BK129.out 16).trans rfl
      have hcz22_17 : w5.cell? ⟨gb129, 17, none⟩ = some (.string a1_17) := (blk_cell BK129.out 17).trans rfl
      have hcz22_18 : w5.cell? ⟨gb129, 18, none⟩ = some (.slice A1_18 l1_18.length c1_18) := (blk_cell BK129.out 18).trans rfl
      have hcz22_19 : w5.cell? ⟨gb129, 19, none⟩ = some (.slice A1_19 l1_19.length c1_19) := (blk_cell BK129.out 19).trans rfl
      have hcz22_20 : w5.cell? ⟨gb129, 20, none⟩ = some (.string a1_20) := (blk_cell BK129.out 20).trans rfl
      have hcz22_21 : w5.cell? ⟨gb129, 21, none⟩ = some (.bool a1_21) := (blk_cell BK129.out 21).trans rfl
      have hcz22_22 : w5.cell? ⟨gb129, 22, none⟩ = some (.string a1_22) := (blk_cell BK129.out 22).trans rfl
      have hcz22_23 : w5.cell? ⟨gb129, 23, none⟩ = some (.bool a1_23) := (blk_cell BK129.out 23).trans rfl
      have hcz22_24 : w5.cell? ⟨gb129, 24, none⟩ = some (.string a1_24) := (blk_cell BK129.out 24).trans rfl
      have hcz22_25 : w5.cell? ⟨gb129, 25, none⟩ = some (.string a1_25) := (blk_cell BK129.out 25).trans rfl
      have hcz22_26 : w5.cell? ⟨gb129, 26, none⟩ = some (.bool a1_26) := (blk_cell BK129.out 26).trans rfl
      have hcz22_27 : w5.cell? ⟨gb129, 27, none⟩ = some (.int .i64 a1_27) := (blk_cell BK129.out 27).trans rfl
      have hcz22_28 : w5.cell? ⟨gb129, 28, none⟩ = some (.slice A1_28 l1_28.length c1_28) := (blk_cell BK129.out 28).trans rfl
      have hfz22_0 := blk_frozen BK129.out 0
      have hfz22_1 := blk_frozen BK129.out 1
      have hfz22_2 := blk_frozen BK129.out 2
      have hfz22_3 := blk_frozen BK129.out 3
      have hfz22_4 := blk_frozen BK129.out 4
      have hfz22_5 := blk_frozen BK129.out 5
      have hfz22_6 := blk_frozen BK129.out 6
      have hfz22_7 := blk_frozen BK129.out 7
      have hfz22_8 := blk_frozen BK129.out 8
      have hfz22_9 := blk_frozen BK129.out 9
      have hfz22_10 := blk_frozen BK129.out 10
      have hfz22_11 := blk_frozen BK129.out 11
      have hfz22_12 := blk_frozen BK129.out 12
      have hfz22_13 := blk_frozen BK129.out 13
      have hfz22_14 := blk_frozen BK129.out 14
      have hfz22_15 := blk_frozen BK129.out 15
      have hfz22_16 := blk_frozen BK129.out 16
      have hfz22_17 := blk_frozen BK129.out 17
      have hfz22_18 := blk_frozen BK129.out 18
      have hfz22_19 := blk_frozen BK129.out 19
      have hfz22_20 := blk_frozen BK129.out 20
      have hfz22_21 := blk_frozen BK129.out 21
      have hfz22_22 := blk_frozen BK129.out 22
      have hfz22_23 := blk_frozen BK129.out 23
      have hfz22_24 := blk_frozen BK129.out 24
      have hfz22_25 := blk_frozen BK129.out 25
      have hfz22_26 := blk_frozen BK129.out 26
      have hfz22_27 := blk_frozen BK129.out 27
      have hfz22_28 := blk_frozen BK129.out 28
      go_wp2
      go_meet
      case rel => exact ⟨_, (true), (by first | rfl | (simp; done) | (simp [*]; done) | (simp [isEmpty_ne_]; done)), H', ⟨by first | omega | exact Nat.le_refl _⟩, ⟨by (with_reducible repeat (first | refine blk_drewN ?_ _ | refine blk_drew ?_ | refine blk_alloc ?_ _)); exact BK128.out⟩, ⟨by (with_reducible repeat (first | refine blk_drewN ?_ _ | refine blk_drew ?_ | refine blk_alloc ?_ _)); exact BK129.out⟩, ⟨by repeat (first | (with_reducible first | exact HB.out | apply below_alloc | apply pw_below_drewN | apply below_drew1 | refine below_set ?_ GE128.out | refine below_set ?_ GE129.out) | exact HB.out)⟩⟩
   ·rw [if_neg c7] at H
    have c7b0 : (a0_1 == a1_1) = false := beq_eq_false_iff_ne.mpr c7
    have c7b1 : (a0_1 != a1_1) = true := bne_iff_ne.mpr c7
    have H' := Aside0.mk H
    clear H
    have hnb23 := NB128_129.out
    have hnc23 := NB129_128.out
    have hcz24_0 : w5.cell? ⟨gb128, 0, none⟩ = some (.int .i64 a0_0) := (blk_cell BK128.out 0).trans rfl
    have hcz24_1 : w5.cell? ⟨gb128, 1, none⟩ = some (.int .i64 a0_1) := (blk_cell BK128.out 1).trans rfl
    have hcz24_2 : w5.cell? ⟨gb128, 2, none⟩ = some (.int .i64 a0_2) := (blk_cell BK128.out 2).trans rfl
    have hcz24_3 : w5.cell? ⟨gb128, 3, none⟩ = some (.string a0_3) := (blk_cell BK128.out 3).trans rfl
    have hcz24_4 : w5.cell? ⟨gb128, 4, none⟩ = some (.int .i64 a0_4) := (blk_cell BK128.out 4).trans rfl
    have hcz24_5 : w5.cell? ⟨gb128, 5, none⟩ = some (.string a0_5) := (blk_cell BK128.out 5).trans rfl
    have hcz24_6 : w5.cell? ⟨gb128, 6, none⟩ = some (.string a0_6) := (blk_cell BK128.out 6).trans rfl
    have hcz24_7 : w5.cell? ⟨gb128, 7, none⟩ = some (.string a0_7) := (blk_cell BK128.out 7).trans rfl
    have hcz24_8 : w5.cell? ⟨gb128, 8, none⟩ = some (.bool a0_8) := (blk_cell BK128.out 8).trans rfl
    have hcz24_9 : w5.cell? ⟨gb128, 9, none⟩ = some (.string a0_9) := (blk_cell BK128.out 9).trans rfl
    have hcz24_10 : w5.cell? ⟨gb128, 10, none⟩ = some (.int .i64 a0_10) := (blk_cell BK128.out 10).trans rfl
    have hcz24_11 : w5.cell? ⟨gb128, 11, none⟩ = some (.int .i64 a0_11) := (blk_cell BK128.out 11).trans rfl
    have hcz24_12 : w5.cell? ⟨gb128, 12, none⟩ = some (.int .i64 a0_12) := (blk_cell BK128.out 12).trans rfl
    have hcz24_13 : w5.cell? ⟨gb128, 13, none⟩ = some (.int .i64 a0_13) := (blk_cell BK128.out 13).trans rfl
    have hcz24_14 : w5.cell? ⟨gb128, 14, none⟩ = some (.bool a0_14) := (blk_cell BK128.out 14).trans rfl
    have hcz24_15 : w5.cell? ⟨gb128, 15, none⟩ = some (.slice A0_15 l0_15.length c0_15) := (blk_cell BK128.out 15).trans rfl
    have hcz24_16 : w5.cell? ⟨gb128, 16, none⟩ = some (.slice A0_16 l0_16.length c0_16) := (blk_cell BK128.out 16).trans rfl
    have hcz24_17 : w5.cell? ⟨gb128, 17, none⟩ = some (.string a0_17) := (blk_cell BK128.out 17).trans rfl
    have hcz24_18 : w5.cell? ⟨gb128, 18, none⟩ = some (.slice A0_18 l0_18.length c0_18) := (blk_cell BK128.out 18).trans rfl
    have hcz24_19 : w5.cell? ⟨gb128, 19, none⟩ = some (.slice A0_19 l0_19.length c0_19) := (blk_cell BK128.out 19).trans rfl
    have hcz24_20 : w5.cell? ⟨gb128, 20, none⟩ = some (.string a0_20) := (blk_cell BK128.out 20).trans rfl
    have hcz24_21 : w5.cell? ⟨gb128, 21, none⟩ = some (.bool a0_21) := (blk_cell BK128.out 21).trans rfl
    have hcz24_22 : w5.cell? ⟨gb128, 22, none⟩ = some (.string a0_22) := (blk_cell BK128.out 22).trans rfl
    have hcz24_23 : w5.cell? ⟨gb128, 23, none⟩ = some (.bool a0_23) := (blk_cell BK128.out 23).trans rfl
    have hcz24_24 : w5.cell? ⟨gb128, 24, none⟩ = some (.string a0_24) := (blk_cell BK128.out 24).trans rfl
    have hcz24_25 : w5.cell? ⟨gb128, 25, none⟩ = some (.string a0_25) := (blk_cell BK128.out 25).trans rfl
    have hcz24_26 : w5.cell? ⟨gb128, 26, none⟩ = some (.bool a0_26) := (blk_cell BK128.out 26).trans rfl
    have hcz24_27 : w5.cell? ⟨gb128, 27, none⟩ = some (.int .i64 a0_27) := (blk_cell BK128.out 27).trans rfl
    have hcz24_28 : w5.cell? ⟨gb128, 28, none⟩ = some (.slice A0_28 l0_28.length c0_28) := (blk_cell BK128.out 28).trans rfl
    have hfz24_0 := blk_frozen BK128.out 0
    have hfz24_1 := blk_frozen BK128.out 1
    have hfz24_2 := blk_frozen BK128.out 2
    have hfz24_3 := blk_frozen BK128.out 3
    have hfz24_4 := blk_frozen BK128.out 4
    have hfz24_5 := blk_frozen BK128.out 5
    have hfz24_6 := blk_frozen BK128.out 6
    have hfz24_7 := blk_frozen BK128.out 7
    have hfz24_8 := blk_frozen BK128.out 8
    have hfz24_9 := blk_frozen BK128.out 9
    have hfz24_10 := blk_frozen BK128.out 10
    have hfz24_11 := blk_frozen BK128.out 11
    have hfz24_12 := blk_frozen BK128.out 12
    have hfz24_13 := blk_frozen BK128.out 13
    have hfz24_14 := blk_frozen BK128.out 14
    have hfz24_15 := blk_frozen BK128.out 15
    have hfz24_16 := blk_frozen BK128.out 16
    have hfz24_17 := blk_frozen BK128.out 17
    have hfz24_18 := blk_frozen BK128.out 18
    have hfz24_19 := blk_frozen BK128.out 19
    have hfz24_20 := blk_frozen BK128.out 20
    have hfz24_21 := blk_frozen BK128.out 21
    have hfz24_22 := blk_frozen BK128.out 22
    have hfz24_23 := blk_frozen BK128.out 23
    have hfz24_24 := blk_frozen BK128.out 24
    have hfz24_25 := blk_frozen BK128.out 25
    have hfz24_26 := blk_frozen BK128.out 26
    have hfz24_27 := blk_frozen BK128.out 27
    have hfz24_28 := blk_frozen BK128.out 28
    have hcz25_0 : w5.cell? ⟨gb129, 0, none⟩ = some (.int .i64 a1_0) := (blk_cell BK129.out 0).trans rfl
    have hcz25_1 : w5.cell? ⟨gb129, 1, none⟩ = some (.int .i64 a1_1) := (blk_cell BK129.out 1).trans rfl
    have hcz25_2 : w5.cell? ⟨gb129, 2, none⟩ = some (.int .i64 a1_2) := (blk_cell BK129.out 2).trans rfl
    have hcz25_3 : w5.cell? ⟨gb129, 3, none⟩ = some (.string a1_3) := (blk_cell BK129.out 3).trans rfl
    have hcz25_4 : w5.cell? ⟨gb129, 4, none⟩ = some (.int .i64 a1_4) := (blk_cell BK129.out 4).trans rfl
    have hcz25_5 : w5.cell? ⟨gb129, 5, none⟩ = some (.string a1_5) := (blk_cell BK129.out 5).trans rfl
    have hcz25_6 : w5.cell? ⟨gb129, 6, none⟩ = some (.string a1_6) := (blk_cell BK129.out 6).trans rfl
    have hcz25_7 : w5.cell? ⟨gb129, 7, none⟩ = some (.string a1_7) := (blk_cell BK129.out 7).trans rfl
    have hcz25_8 : w5.cell? ⟨gb129, 8, none⟩ = some (.bool a1_8) := (blk_cell BK129.out 8).trans rfl
    have hcz25_9 : w5.cell? ⟨gb129, 9, none⟩ = some (.string a1_9) := (blk_cell BK129.out 9).trans rfl
    have hcz25_10 : w5.cell? ⟨gb129, 10, none⟩ = some (.int .i64 a1_10) := (blk_cell BK129.out 10).trans rfl
    have hcz25_11 : w5.cell? ⟨gb129, 11, none⟩ = some (.int .i64 a1_11) := (blk_cell BK129.out 11).trans rfl
    have hcz25_12 : w5.cell? ⟨gb129, 12, none⟩ = some (.int .i64 a1_12) := (blk_cell BK129.out 12).trans rfl
    have hcz25_13 : w5.cell? ⟨gb129, 13, none⟩ = some (.int .i64 a1_13) := (blk_cell BK129.out 13).trans rfl
    have hcz25_14 : w5.cell? ⟨gb129, 14, none⟩ = some (.bool a1_14) := (blk_cell BK129.out 14).trans rfl
    have hcz25_15 : w5.cell? ⟨gb129, 15, none⟩ = some (.slice A1_15 l1_15.length c1_15) := (blk_cell BK129.out 15).trans rfl
    have hcz25_16 : w5.cell? ⟨gb129, 16, none⟩ = some (.slice A1_16 l1_16.length c1_16) := (blk_cell BK129.out 16).trans rfl
    have hcz25_17 : w5.cell? ⟨gb129, 17, none⟩ = some (.string a1_17) := (blk_cell BK129.out 17).trans rfl
    have hcz25_18 : w5.cell? ⟨gb129, 18, none⟩ = some (.slice A1_18 l1_18.length c1_18) := (blk_cell BK129.out 18).trans rfl
    have hcz25_19 : w5.cell? ⟨gb129, 19, none⟩ = some (.slice A1_19 l1_19.length c1_19) := (blk_cell BK129.out 19).trans rfl
    have hcz25_20 : w5.cell? ⟨gb129, 20, none⟩ = some (.string a1_20) := (blk_cell BK129.out 20).trans rfl
    have hcz25_21 : w5.cell? ⟨gb129, 21, none⟩ = some (.bool a1_21) := (blk_cell BK129.out 21).trans rfl
    have hcz25_22 : w5.cell? ⟨gb129, 22, none⟩ = some (.string a1_22) := (blk_cell BK129.out 22).trans rfl
    have hcz25_23 : w5.cell? ⟨gb129, 23, none⟩ = some (.bool a1_23) := (blk_cell BK129.out 23).trans rfl
    have hcz25_24 : w5.cell? ⟨gb129, 24, none⟩ = some (.string a1_24) := (blk_cell BK129.out 24).trans rfl
    have hcz25_25 : w5.cell? ⟨gb129, 25, none⟩ = some (.string a1_25) := (blk_cell BK129.out 25).trans rfl
    have hcz25_26 : w5.cell? ⟨gb129, 26, none⟩ = some (.bool a1_26) := (blk_cell BK129.out 26).trans rfl
    have hcz25_27 : w5.cell? ⟨gb129, 27, none⟩ = some (.int .i64 a1_27) := (blk_cell BK129.out 27).trans rfl
    have hcz25_28 : w5.cell? ⟨gb129, 28, none⟩ = some (.slice A1_28 l1_28.length c1_28) := (blk_cell BK129.out 28).trans rfl
    have hfz25_0 := blk_frozen BK129.out 0
    have hfz25_1 := blk_frozen BK129.out 1
    have hfz25_2 := blk_frozen BK129.out 2
    have hfz25_3 := blk_frozen BK129.out 3
    have hfz25_4 := blk_frozen BK129.out 4
    have hfz25_5 := blk_frozen BK129.out 5
    have hfz25_6 := blk_frozen BK129.out 6
    have hfz25_7 := blk_frozen BK129.out 7
    have hfz25_8 := blk_frozen BK129.out 8
    have hfz25_9 := blk_frozen BK129.out 9
    have hfz25_10 := blk_frozen BK129.out 10
    have hfz25_11 := blk_frozen BK129.out 11
    have hfz25_12 := blk_frozen BK129.out 12
    have hfz25_13 := blk_frozen BK129.out 13
    have hfz25_14 := blk_frozen BK129.out 14
    have hfz25_15 := blk_frozen BK129.out 15
    have hfz25_16 := blk_frozen BK129.out 16
    have hfz25_17 := blk_frozen BK129.out 17
    have hfz25_18 := blk_frozen BK129.out 18
    have hfz25_19 := blk_frozen BK129.out 19
    have hfz25_20 := blk_frozen BK129.out 20
    have hfz25_21 := blk_frozen BK129.out 21
    have hfz25_22 := blk_frozen BK129.out 22
    have hfz25_23 := blk_frozen BK129.out 23
    have hfz25_24 := blk_frozen BK129.out 24
    have hfz25_25 := blk_frozen BK129.out 25
    have hfz25_26 := blk_frozen BK129.out 26
    have hfz25_27 := blk_frozen BK129.out 27
    have hfz25_28 := blk_frozen BK129.out 28
    go_wp2
    go_meet
    case rel => exact ⟨_, (true), (by first | rfl | (simp; done) | (simp [*]; done) | (simp [isEmpty_ne_]; done)), H', ⟨by first | omega | exact Nat.le_refl _⟩, ⟨by (with_reducible repeat (first | refine blk_drewN ?_ _ | refine blk_drew ?_ | refine blk_alloc ?_ _)); exact BK128.out⟩, ⟨by (with_reducible repeat (first | refine blk_drewN ?_ _ | refine blk_drew ?_ | refine blk_alloc ?_ _)); exact BK129.out⟩, ⟨by repeat (first | (with_reducible first | exact HB.out | apply below_alloc | apply pw_below_drewN | apply below_drew1 | refine below_set ?_ GE128.out | refine below_set ?_ GE129.out) | exact HB.out)⟩⟩
  ·rw [if_neg c6] at H
   have c6b0 : (a0_0 == a1_0) = false := beq_eq_false_iff_ne.mpr c6
   have c6b1 : (a0_0 != a1_0) = true := bne_iff_ne.mpr c6
   (first | rw [c6b0] | (simp only [i64_w, i32_w]; rw [c6b0]) | skip)
   have H' := Aside0.mk H
   clear H
   have hnb26 := NB128_129.out
   have hnc26 := NB129_128.out
   have hcz27_0 : w5.cell? ⟨gb128, 0, none⟩ = some (.int .i64 a0_0) := (blk_cell BK128.out 0).trans rfl
   have hcz27_1 : w5.cell? ⟨gb128, 1, none⟩ = some (.int .i64 a0_1) := (blk_cell BK128.out 1).trans rfl
   have hcz27_2 : w5.cell? ⟨gb128, 2, none⟩ = some (.int .i64 a0_2) := (blk_cell BK128.out 2).trans rfl
   have hcz27_3 : w5.cell? ⟨gb128, 3, none⟩ = some (.string a0_3) := (blk_cell BK128.out 3).trans rfl
   have hcz27_4 : w5.cell? ⟨gb128, 4, none⟩ = some (.int .i64 a0_4) := (blk_cell BK128.out 4).trans rfl
   have hcz27_5 : w5.cell? ⟨gb128, 5, none⟩ = some (.string a0_5) := (blk_cell BK128.out 5).trans rfl
   have hcz27_6 : w5.cell? ⟨gb128, 6, none⟩ = some (.string a0_6) := (blk_cell BK128.out 6).trans rfl
   have hcz27_7 : w5.cell? ⟨gb128, 7, none⟩ = some (.string a0_7) := (blk_cell BK128.out 7).trans rfl
   have hcz27_8 : w5.cell? ⟨gb128, 8, none⟩ = some (.bool a0_8) := (blk_cell BK128.out 8).trans rfl
   have hcz27_9 : w5.cell? ⟨gb128, 9, none⟩ = some (.string a0_9) := (blk_cell BK128.out 9).trans rfl
   have hcz27_10 : w5.cell? ⟨gb128, 10, none⟩ = some (.int .i64 a0_10) := (blk_cell BK128.out 10).trans rfl
   have hcz27_11 : w5.cell? ⟨gb128, 11, none⟩ = some (.int .i64 a0_11) := (blk_cell BK128.out 11).trans rfl
   have hcz27_12 : w5.cell? ⟨gb128, 12, none⟩ = some (.int .i64 a0_12) := (blk_cell BK128.out 12).trans rfl
   have hcz27_13 : w5.cell? ⟨gb128, 13, none⟩ = some (.int .i64 a0_13) := (blk_cell BK128.out 13).trans rfl
   have hcz27_14 : w5.cell? ⟨gb128, 14, none⟩ = some (.bool a0_14) := (blk_cell BK128.out 14).trans rfl
   have hcz27_15 : w5.cell? ⟨gb128, 15, none⟩ = some (.slice A0_15 l0_15.length c0_15) := (blk_cell BK128.out 15).trans rfl
   have hcz27_16 : w5.cell? ⟨gb128, 16, none⟩ = some (.slice A0_16 l0_16.length c0_16) := (blk_cell BK128.out 16).trans rfl
   have hcz27_17 : w5.cell? ⟨gb128, 17, none⟩ = some (.string a0_17) := (blk_cell BK128.out 17).trans rfl
   have hcz27_18 : w5.cell? ⟨gb128, 18, none⟩ = some (.slice A0_18 l0_18.length c0_18) := (blk_cell BK128.out 18).trans rfl
   have hcz27_19 : w5.cell? ⟨gb128, 19, none⟩ = some (.slice A0_19 l0_19.length c0_19) := (blk_cell BK128.out 19).trans rfl
   have hcz27_20 : w5.cell? ⟨gb128, 20, none⟩ = some (.string a0_20) := (blk_cell BK128.out 20).trans rfl
   have hcz27_21 : w5.cell? ⟨gb128, 21, none⟩ = some (.bool a0_21) := (blk_cell BK128.out 21).trans rfl
   have hcz27_22 : w5.cell? ⟨gb128, 22, none⟩ = some (.string a0_22) := (blk_cell BK128.out 22).trans rfl
   have hcz27_23 : w5.cell? ⟨gb128, 23, none⟩ = some (.bool a0_23) := (blk_cell BK128.out 23).trans rfl
   have hcz27_24 : w5.cell? ⟨gb128, 24, none⟩ = some (.string a0_24) := (blk_cell BK128.out 24).trans rfl
   have hcz27_25 : w5.cell? ⟨gb128, 25, none⟩ = some (.string a0_25) := (blk_cell BK128.out 25).trans rfl
   have hcz27_26 : w5.cell? ⟨gb128, 26, none⟩ = some (.bool a0_26) := (blk_cell BK128.out 26).trans rfl
   have hcz27_27 : w5.cell? ⟨gb128, 27, none⟩ = some (.int .i64 a0_27) := (blk_cell BK128.out 27).trans rfl
   have hcz27_28 : w5.cell? ⟨gb128, 28, none⟩ = some (.slice A0_28 l0_28.length c0_28) := (blk_cell BK128.out 28).trans rfl
   have hfz27_0 := blk_frozen BK128.out 0
   have hfz27_1 := blk_frozen BK128.out 1
   have hfz27_2 := blk_frozen BK128.out 2
   have hfz27_3 := blk_frozen BK128.out 3
   have hfz27_4 := blk_frozen BK128.out 4
   have hfz27_5 := blk_frozen BK128.out 5
   have hfz27_6 := blk_frozen BK128.out 6
   have hfz27_7 := blk_frozen BK128.out 7
   have hfz27_8 := blk_frozen BK128.out 8
   have hfz27_9 := blk_frozen BK128.out 9
   have hfz27_10 := blk_frozen BK128.out 10
   have hfz27_11 := blk_frozen BK128.out 11
   have hfz27_12 := blk_frozen BK128.out 12
   have hfz27_13 := blk_frozen BK128.out 13
   have hfz27_14 := blk_frozen BK128.out 14
   have hfz27_15 := blk_frozen BK128.out 15
   have hfz27_16 := blk_frozen BK128.out 16
   have hfz27_17 := blk_frozen BK128.out 17
   have hfz27_18 := blk_frozen BK128.out 18
   have hfz27_19 := blk_frozen BK128.out 19
   have hfz27_20 := blk_frozen BK128.out 20
   have hfz27_21 := blk_frozen BK128.out 21
   have hfz27_22 := blk_frozen BK128.out 22
   have hfz27_23 := blk_frozen BK128.out 23
   have hfz27_24 := blk_frozen BK128.out 24
   have hfz27_25 := blk_frozen BK128.out 25
   have hfz27_26 := blk_frozen BK128.out 26
   have hfz27_27 := blk_frozen BK128.out 27
   have hfz27_28 := blk_frozen BK128.out 28
   have hcz28_0 : w5.cell? ⟨gb129, 0, none⟩ = some (.int .i64 a1_0) := (blk_cell BK129.out 0).trans rfl
   have hcz28_1 : w5.cell? ⟨gb129, 1, none⟩ = some (.int .i64 a1_1) := (blk_cell BK129.out 1).trans rfl
   have hcz28_2 : w5.cell? ⟨gb129, 2, none⟩ = some (.int .i64 a1_2) := (blk_cell BK129.out 2).trans rfl
   have hcz28_3 : w5.cell? ⟨gb129, 3, none⟩ = some (.string a1_3) := (blk_cell BK129.out 3).trans rfl
   have hcz28_4 : w5.cell? ⟨gb129, 4, none⟩ = some (.int .i64 a1_4) := (blk_cell BK129.out 4).trans rfl
   have hcz28_5 : w5.cell? ⟨gb129, 5, none⟩ = some (.string a1_5) := (blk_cell BK129.out 5).trans rfl
   have hcz28_6 : w5.cell? ⟨gb129, 6, none⟩ = some (.string a1_6) := (blk_cell BK129.out 6).trans rfl
   have hcz28_7 : w5.cell? ⟨gb129, 7, none⟩ = some (.string a1_7) := (blk_cell BK129.out 7).trans rfl
   have hcz28_8 : w5.cell? ⟨gb129, 8, none⟩ = some (.bool a1_8) := (blk_cell BK129.out 8).trans rfl
   have hcz28_9 : w5.cell? ⟨gb129, 9, none⟩ = some (.string a1_9) := (blk_cell BK129.out 9).trans rfl
   have hcz28_10 : w5.cell? ⟨gb129, 10, none⟩ = some (.int .i64 a1_10) := (blk_cell BK129.out 10).trans rfl
   have hcz28_11 : w5.cell? ⟨gb129, 11, none⟩ = some (.int .i64 a1_11) := (blk_cell BK129.out 11).trans rfl
   have hcz28_12 : w5.cell? ⟨gb129, 12, none⟩ = some (.int .i64 a1_12) := (blk_cell BK129.out 12).trans rfl
   have hcz28_13 : w5.cell? ⟨gb129, 13, none⟩ = some (.int .i64 a1_13) := (blk_cell BK129.out 13).trans rfl
   have hcz28_14 : w5.cell? ⟨gb129, 14, none⟩ = some (.bool a1_14) := (blk_cell BK129.out 14).trans rfl
   have hcz28_15 : w5.cell? ⟨gb129, 15, none⟩ = some (.slice A1_15 l1_15.length c1_15) := (blk_cell BK129.out 15).trans rfl
   have hcz28_16 : w5.cell? ⟨gb129, 16, none⟩ = some (.slice A1_16 l1_16.length c1_16) := (blk_cell BK129.out 16).trans rfl
   have hcz28_17 : w5.cell? ⟨gb129, 17, none⟩ = some (.string a1_17) := (blk_cell BK129.out 17).trans rfl
   have hcz28_18 : w5.cell? ⟨gb129, 18, none⟩ = some (.slice A1_18 l1_18.length c1_18) := (blk_cell BK129.out 18).trans rfl
   have hcz28_19 : w5.cell? ⟨gb129, 19, none⟩ = some (.slice A1_19 l1_19.length c1_19) := (blk_cell BK129.out 19).trans rfl
   have hcz28_20 : w5.cell? ⟨gb129, 20, none⟩ = some (.string a1_20) := (blk_cell BK129.out 20).trans rfl
   have hcz28_21 : w5.cell? ⟨gb129, 21, none⟩ = some (.bool a1_21) := (blk_cell BK129.out 21).trans rfl
   have hcz28_22 : w5.cell? ⟨gb129, 22, none⟩ = some (.string a1_22) := (blk_cell BK129.out 22).trans rfl
   have hcz28_23 : w5.cell? ⟨gb129, 23, none⟩ = some (.bool a1_23) := (blk_cell BK129.out 23).trans rfl
   have hcz28_24 : w5.cell? ⟨gb129, 24, none⟩ = some (.string a1_24) := (blk_cell BK129.out 24).trans rfl
   have hcz28_25 : w5.cell? ⟨gb129, 25, none⟩ = some (.string a1_25) := (blk_cell BK129.out 25).trans rfl
   have hcz28_26 : w5.cell? ⟨gb129, 26, none⟩ = some (.bool a1_26) := (blk_cell BK129.out 26).trans rfl
   have hcz28_27 : w5.cell? ⟨gb129, 27, none⟩ = some (.int .i64 a1_27) := (blk_cell BK129.out 27).trans rfl
   have hcz28_28 : w5.cell? ⟨gb129, 28, none⟩ = some (.slice A1_28 l1_28.length c1_28) := (blk_cell BK129.out 28).trans rfl
   have hfz28_0 := blk_frozen BK129.out 0
   have hfz28_1 := blk_frozen BK129.out 1
   have hfz28_2 := blk_frozen BK129.out 2
   have hfz28_3 := blk_frozen BK129.out 3
   have hfz28_4 := blk_frozen BK129.out 4
   have hfz28_5 := blk_frozen BK129.out 5
   have hfz28_6 := blk_frozen BK129.out 6
   have hfz28_7 := blk_frozen BK129.out 7
   have hfz28_8 := blk_frozen BK129.out 8
   have hfz28_9 := blk_frozen BK129.out 9
   have hfz28_10 := blk_frozen BK129.out 10
   have hfz28_11 := blk_frozen BK129.out 11
   have hfz28_12 := blk_frozen BK129.out 12
   have hfz28_13 := blk_frozen BK129.out 13
   have hfz28_14 := blk_frozen BK129.out 14
   have hfz28_15 := blk_frozen BK129.out 15
   have hfz28_16 := blk_frozen BK129.out 16
   have hfz28_17 := blk_frozen BK129.out 17
   have hfz28_18 := blk_frozen BK129.out 18
   have hfz28_19 := blk_frozen BK129.out 19
   have hfz28_20 := blk_frozen BK129.out 20
   have hfz28_21 := blk_frozen BK129.out 21
   have hfz28_22 := blk_frozen BK129.out 22
   have hfz28_23 := blk_frozen BK129.out 23
   have hfz28_24 := blk_frozen BK129.out 24
   have hfz28_25 := blk_frozen BK129.out 25
   have hfz28_26 := blk_frozen BK129.out 26
   have hfz28_27 := blk_frozen BK129.out 27
   have hfz28_28 := blk_frozen BK129.out 28
   go_wp2
   go_meet
   case rel => exact ⟨_, (true), (by first | rfl | (simp; done) | (simp [*]; done) | (simp [isEmpty_ne_]; done)), H', ⟨by first | omega | exact Nat.le_refl _⟩, ⟨by (with_reducible repeat (first | refine blk_drewN ?_ _ | refine blk_drew ?_ | refine blk_alloc ?_ _)); exact BK128.out⟩, ⟨by (with_reducible repeat (first | refine blk_drewN ?_ _ | refine blk_drew ?_ | refine blk_alloc ?_ _)); exact BK129.out⟩, ⟨by repeat (first | (with_reducible first | exact HB.out | apply below_alloc | apply pw_below_drewN | apply below_drew1 | refine below_set ?_ GE128.out | refine below_set ?_ GE129.out) | exact HB.out)⟩⟩
 case rest =>
  clear HC3
  try clear c1
  try clear c2
  try clear p2
  try clear c6
  try clear c6b0
  try clear c6b1
  try clear c7
  try clear c7b0
  try clear c7b1
  try clear c12
  try clear c12b0
  try clear c12b1
  try clear c13
  try clear c13b0
  try clear c13b1
  try clear c17
  try clear c20
  try clear c23
  try clear c26
  try clear hcz15_26
  try clear hcz15_27
  try clear hcz15_28
  try clear hcz16_0 hcz16_1
  try clear hcz16_10
  try clear hcz16_11
  try clear hcz16_12
  try clear hcz16_13
  try clear hcz16_14
  try clear hcz16_15
  try clear hcz16_16
  try clear hcz16_17
  try clear hcz16_18
  try clear hcz16_19
  try clear hcz16_2
  try clear hcz16_20
  try clear hcz16_21
  try clear hcz16_22
  try clear hcz16_23
  try clear hcz16_24
  try clear hcz16_25
  try clear hcz16_26
  try clear hcz16_27
  try clear hcz16_28
  try clear hcz16_3
  try clear hcz16_4
  try clear hcz16_5
  try clear hcz16_6
  try clear hcz16_7
  try clear hcz16_8
  try clear hcz16_9
  try clear hcz18_0 hcz18_1
  try clear hcz18_10
  try clear hcz18_11
  try clear hcz18_12
  try clear hcz18_13
  try clear hcz18_14
  try clear hcz18_15
  try clear hcz18_16
  try clear hcz18_17
  try clear hcz18_18
  try clear hcz18_19
  try clear hcz18_2
  try clear hcz18_20
  try clear hcz18_21
  try clear hcz18_22
  try clear hcz18_23
  try clear hcz18_24
  try clear hcz18_25
  try clear hcz18_26
  try clear hcz18_27
  try clear hcz18_28
  try clear hcz18_3
  try clear hcz18_4
  try clear hcz18_5
  try clear hcz18_6
  try clear hcz18_7
  try clear hcz18_8
  try clear hcz18_9
  try clear hcz19_0 hcz19_1
  try clear hcz19_10
  try clear hcz19_11
  try clear hcz19_12
  try clear hcz19_13
  try clear hcz19_14
  try clear hcz19_15
  try clear hcz19_16
  try clear hcz19_17
  try clear hcz19_18
  try clear hcz19_19
  try clear hcz19_2
  try clear hcz19_20
  try clear hcz19_21
  try clear hcz19_22
  try clear hcz19_23
  try clear hcz19_24
  try clear hcz19_25
  try clear hcz19_26
  try clear hcz19_27
  try clear hcz19_28
  try clear hcz19_3
  try clear hcz19_4
  try clear hcz19_5
  try clear hcz19_6
  try clear hcz19_7
  try clear hcz19_8
  try clear hcz19_9
  try clear hcz21_0 hcz21_1
  try clear hcz21_10
  try clear hcz21_11
  try clear hcz21_12
  try clear hcz21_13
  try clear hcz21_14
  try clear hcz21_15
  try clear hcz21_16
  try clear hcz21_17
  try clear hcz21_18
  try clear hcz21_19
  try clear hcz21_2
  try clear hcz21_20
  try clear hcz21_21
  try clear hcz21_22
  try clear hcz21_23
  try clear hcz21_24
  try clear hcz21_25
  try clear hcz21_26
  try clear hcz21_27
  try clear hcz21_28
  try clear hcz21_3
  try clear hcz21_4
  try clear hcz21_5
  try clear hcz21_6
  try clear hcz21_7
  try clear hcz21_8
  try clear hcz21_9
  try clear hcz22_0 hcz22_1
  try clear hcz22_10
  try clear hcz22_11
  try clear hcz22_12
  try clear hcz22_13
  try clear hcz22_14
  try clear hcz22_15
  try clear hcz22_16
  try clear hcz22_17
  try clear hcz22_18
  try clear hcz22_19
  try clear hcz22_2
  try clear hcz22_20
  try clear hcz22_21
  try clear hcz22_22
  try clear hcz22_23
  try clear hcz22_24
  try clear hcz22_25
  try clear hcz22_26
  try clear hcz22_27
  try clear hcz22_28
  try clear hcz22_3
  try clear hcz22_4
  try clear hcz22_5
  try clear hcz22_6
  try clear hcz22_7
  try clear hcz22_8
  try clear hcz22_9
  try clear hcz24_0 hcz24_1
  try clear hcz24_10
  try clear hcz24_11
  try clear hcz24_12
  try clear hcz24_13
  try clear hcz24_14
  try clear hcz24_15
  try clear hcz24_16
  try clear hcz24_17
  try clear hcz24_18
  try clear hcz24_19
  try clear hcz24_2
  try clear hcz24_20
  try clear hcz24_21
  try clear hcz24_22
  try clear hcz24_23
  try clear hcz24_24
  try clear hcz24_25
  try clear hcz24_26
  try clear hcz24_27
  try clear hcz24_28
  try clear hcz24_3
  try clear hcz24_4
  try clear hcz24_5
  try clear hcz24_6
  try clear hcz24_7
  try clear hcz24_8
  try clear hcz24_9
  try clear hcz25_0 hcz25_1
  try clear hcz25_10
  try clear hcz25_11
  try clear hcz25_12
  try clear hcz25_13
  try clear hcz25_14
  try clear hcz25_15
  try clear hcz25_16
  try clear hcz25_17
  try clear hcz25_18
  try clear hcz25_19
  try clear hcz25_2
  try clear hcz25_20
  try clear hcz25_21
  try clear hcz25_22
  try clear hcz25_23
  try clear hcz25_24
  try clear hcz25_25
  try clear hcz25_26
  try clear hcz25_27
  try clear hcz25_28
  try clear hcz25_3
  try clear hcz25_4
  try clear hcz25_5
  try clear hcz25_6
  try clear hcz25_7
  try clear hcz25_8
  try clear hcz25_9
  try clear hcz27_0 hcz27_1
  try clear hcz27_10
  try clear hcz27_11
  try clear hcz27_12
  try clear hcz27_13
  try clear hcz27_14
  try clear hcz27_15
  try clear hcz27_16
  try clear hcz27_17
  try clear hcz27_18
  try clear hcz27_19
  try clear hcz27_2
  try clear hcz27_20
  try clear hcz27_21
  try clear hcz27_22
  try clear hcz27_23
  try clear hcz27_24
  try clear hcz27_25
  try clear hcz27_26
  try clear hcz27_27
  try clear hcz27_28
  try clear hcz27_3
  try clear hcz27_4
  try clear hcz27_5
  try clear hcz27_6
  try clear hcz27_7
  try clear hcz27_8
  try clear hcz27_9
  try clear hcz28_0 hcz28_1
  try clear hcz28_10
  try clear hcz28_11
  try clear hcz28_12
  try clear hcz28_13
  try clear hcz28_14
  try clear hcz28_15
  try clear hcz28_16
  try clear hcz28_17
  try clear hcz28_18
  try clear hcz28_19
  try clear hcz28_2
  try clear hcz28_20
  try clear hcz28_21
  try clear hcz28_22
  try clear hcz28_23
  try clear hcz28_24
  try clear hcz28_25
  try clear hcz28_26
  try clear hcz28_27
  try clear hcz28_28
  try clear hcz28_3
  try clear hcz28_4
  try clear hcz28_5
  try clear hcz28_6
  try clear hcz28_7
  try clear hcz28_8
  try clear hcz28_9
  try clear hfz15_0 hfz15_1
  try clear hfz15_10
  try clear hfz15_11
  try clear hfz15_12
  try clear hfz15_13
  try clear hfz15_14
  try clear hfz15_15
  try clear hfz15_16
  try clear hfz15_17
  try clear hfz15_18
  try clear hfz15_19
  try clear hfz15_2
  try clear hfz15_20
  try clear hfz15_21
  try clear hfz15_22
  try clear hfz15_23
  try clear hfz15_24
  try clear hfz15_25
  try clear hfz15_26
  try clear hfz15_27
  try clear hfz15_28
  try clear hfz15_3
  try clear hfz15_4
  try clear hfz15_5
  try clear hfz15_6
  try clear hfz15_7
  try clear hfz15_8
  try clear hfz15_9
  try clear hfz16_0 hfz16_1
  try clear hfz16_10
  try clear hfz16_11
  try clear hfz16_12
  try clear hfz16_13
  try clear hfz16_14
  try clear hfz16_15
  try clear hfz16_16
  try clear hfz16_17
  try clear hfz16_18
  try clear hfz16_19
  try clear hfz16_2
  try clear hfz16_20
  try clear hfz16_21
  try clear hfz16_22
  try clear hfz16_23
  try clear hfz16_24
  try clear hfz16_25
  try clear hfz16_26
  try clear hfz16_27
  try clear hfz16_28
  try clear hfz16_3
  try clear hfz16_4
  try clear hfz16_5
  try clear hfz16_6
  try clear hfz16_7
  try clear hfz16_8
  try clear hfz16_9
  try clear hfz18_0 hfz18_1
  try clear hfz18_10
  try clear hfz18_11
  try clear hfz18_12
  try clear hfz18_13
  try clear hfz18_14
  try clear hfz18_15
  try clear hfz18_16
  try clear hfz18_17
  try clear hfz18_18
  try clear hfz18_19
  try clear hfz18_2
  try clear hfz18_20
  try clear hfz18_21
  try clear hfz18_22
  try clear hfz18_23
  try clear hfz18_24
  try clear hfz18_25
  try clear hfz18_26
  try clear hfz18_27
  try clear hfz18_28
  try clear hfz18_3
  try clear hfz18_4
  try clear hfz18_5
  try clear hfz18_6
  try clear hfz18_7
  try clear hfz18_8
  try clear hfz18_9
  try clear hfz19_0 hfz19_1
  try clear hfz19_10
  try clear hfz19_11
  try clear hfz19_12
  try clear hfz19_13
  try clear hfz19_14
  try clear hfz19_15
  try clear hfz19_16
  try clear hfz19_17
  try clear hfz19_18
  try clear hfz19_19
  try clear hfz19_2
  try clear hfz19_20
  try clear hfz19_21
  try clear hfz19_22
  try clear hfz19_23
  try clear hfz19_24
  try clear hfz19_25
  try clear hfz19_26
  try clear hfz19_27
  try clear hfz19_28
  try clear hfz19_3
  try clear hfz19_4
  try clear hfz19_5
  try clear hfz19_6
  try clear hfz19_7
  try clear hfz19_8
  try clear hfz19_9
  try clear hfz21_0 hfz21_1
  try clear hfz21_10
  try clear hfz21_11
  try clear hfz21_12
  try clear hfz21_13
  try clear hfz21_14
  try clear hfz21_15
  try clear hfz21_16
  try clear hfz21_17
  try clear hfz21_18
  try clear hfz21_19
  try clear hfz21_2
  try clear hfz21_20
  try clear hfz21_21
  try clear hfz21_22
  try clear hfz21_23
  try clear hfz21_24
  try clear hfz21_25
  try clear hfz21_26
  try clear hfz21_27
  try clear hfz21_28
  try clear hfz21_3
  try clear hfz21_4
  try clear hfz21_5
  try clear hfz21_6
  try clear hfz21_7
  try clear hfz21_8
  try clear hfz21_9
  try clear hfz22_0 hfz22_1
  try clear hfz22_10
  try clear hfz22_11
  try clear hfz22_12
  try clear hfz22_13
  try clear hfz22_14
  try clear hfz22_15
  try clear hfz22_16
  try clear hfz22_17
  try clear hfz22_18
  try clear hfz22_19
  try clear hfz22_2
  try clear hfz22_20
  try clear hfz22_21
  try clear hfz22_22
  try clear hfz22_23
  try clear hfz22_24
  try clear hfz22_25
  try clear hfz22_26
  try clear hfz22_27
  try clear hfz22_28
  try clear hfz22_3
  try clear hfz22_4
  try clear hfz22_5
  try clear hfz22_6
  try clear hfz22_7
  try clear hfz22_8
  try clear hfz22_9
  try clear hfz24_0 hfz24_1
  try clear hfz24_10
  try clear hfz24_11
  try clear hfz24_12
  try clear hfz24_13
  try clear hfz24_14
  try clear hfz24_15
  try clear hfz24_16
  try clear hfz24_17
  try clear hfz24_18
  try clear hfz24_19
  try clear hfz24_2
  try clear hfz24_20
  try clear hfz24_21
  try clear hfz24_22
  try clear hfz24_23
  try clear hfz24_24
  try clear hfz24_25
  try clear hfz24_26
  try clear hfz24_27
  try clear hfz24_28
  try clear hfz24_3
  try clear hfz24_4
  try clear hfz24_5
  try clear hfz24_6
  try clear hfz24_7
  try clear hfz24_8
  try clear hfz24_9
  try clear hfz25_0 hfz25_1
  try clear hfz25_10
  try clear hfz25_11
  try clear hfz25_12
  try clear hfz25_13
  try clear hfz25_14
  try clear hfz25_15
  try clear hfz25_16
  try clear hfz25_17
  try clear hfz25_18
  try clear hfz25_19
  try clear hfz25_2
  try clear hfz25_20
  try clear hfz25_21
  try clear hfz25_22
  try clear hfz25_23
  try clear hfz25_24
  try clear hfz25_25
  try clear hfz25_26
  try clear hfz25_27
  try clear hfz25_28
  try clear hfz25_3
  try clear hfz25_4
  try clear hfz25_5
  try clear hfz25_6
  try clear hfz25_7
  try clear hfz25_8
  try clear hfz25_9
  try clear hfz27_0 hfz27_1
  try clear hfz27_10
  try clear hfz27_11
  try clear hfz27_12
  try clear hfz27_13
  try clear hfz27_14
  try clear hfz27_15
  try clear hfz27_16
  try clear hfz27_17
  try clear hfz27_18
  try clear hfz27_19
  try clear hfz27_2
  try clear hfz27_20
  try clear hfz27_21
  try clear hfz27_22
  try clear hfz27_23
  try clear hfz27_24
  try clear hfz27_25
  try clear hfz27_26
  try clear hfz27_27
  try clear hfz27_28
  try clear hfz27_3
  try clear hfz27_4
  try clear hfz27_5
  try clear hfz27_6
  try clear hfz27_7
  try clear hfz27_8
  try clear hfz27_9
  try clear hfz28_0 hfz28_1
  try clear hfz28_10
  try clear hfz28_11
  try clear hfz28_12
  try clear hfz28_13
  try clear hfz28_14
  try clear hfz28_15
  try clear hfz28_16
  try clear hfz28_17
  try clear hfz28_18
  try clear hfz28_19
  try clear hfz28_2
  try clear hfz28_20
  try clear hfz28_21
  try clear hfz28_22
  try clear hfz28_23
  try clear hfz28_24
  try clear hfz28_25
  try clear hfz28_26
  try clear hfz28_27
  try clear hfz28_28
  try clear hfz28_3
  try clear hfz28_4
  try clear hfz28_5
  try clear hfz28_6
  try clear hfz28_7
  try clear hfz28_8
  try clear hfz28_9
  obtain ⟨kq, x44_2, rfl, HA, HJ2, BK128, BK129, HB⟩ := hcut
  cases kq with
  | zero => exact absurd HA.out (by simp [rosterref13_SameRequest.j0])
  | succ kj2 =>
   have H := HA.out
   clear HA
   simp only [rosterref13_SameRequest.j0] at H
   by_cases c29 : x44_2 = true
   ·subst c29
    have H1 : (some false) = some r := by rw [if_pos rfl] at H; exact H
    clear H
    have H := H1
    clear H1
    obtain rfl := Option.some.inj H
    go_wp2
    go_ret
    exact ⟨by first | rfl | (simp [isEmpty_ne_]; done) | (simp [*, errW_none, errW_some] <;> rfl), by repeat (first | (with_reducible first | exact HB.out | apply below_alloc | apply pw_below_drewN | apply below_drew1 | refine below_set ?_ GE128.out | refine below_set ?_ GE129.out) | exact HB.out)⟩
   ·replace c29 := Bool.eq_false_iff.mpr c29
    subst c29
    have H1 : (if a0_22.toList = a1_22.toList then (if (a0_23 != a1_23) = true then (rosterref13_SameRequest.j1 kj2 true a0_0 a0_1 a0_2 a0_3 a0_4 a0_5 a0_6 a0_7 a0_8 a0_9 a0_10 a0_11 a0_12 a0_13 a0_14 l0_15 l0_16 a0_17 l0_18 l0_19 a0_20 a0_21 a0_22 a0_23 a0_24 a0_25 a0_26 a0_27 l0_28 a1_0 a1_1 a1_2 a1_3 a1_4 a1_5 a1_6 a1_7 a1_8 a1_9 a1_10 a1_11 a1_12 a1_13 a1_14 l1_15 l1_16 a1_17 l1_18 l1_19 a1_20 a1_21 a1_22 a1_23 a1_24 a1_25 a1_26 a1_27 l1_28) else (if a0_24.toList = a1_24.toList then (if a0_25.toList = a1_25.toList then (if (a0_26 != a1_26) = true then (rosterref13_SameRequest.j1 kj2 true a0_0 a0_1 a0_2 a0_3 a0_4 a0_5 a0_6 a0_7 a0_8 a0_9 a0_10 a0_11 a0_12 a0_13 a0_14 l0_15 l0_16 a0_17 l0_18 l0_19 a0_20 a0_21 a0_22 a0_23 a0_24 a0_25 a0_26 a0_27 l0_28 a1_0 a1_1 a1_2 a1_3 a1_4 a1_5 a1_6 a1_7 a1_8 a1_9 a1_10 a1_11 a1_12 a1_13 a1_14 l1_15 l1_16 a1_17 l1_18 l1_19 a1_20 a1_21 a1_22 a1_23 a1_24 a1_25 a1_26 a1_27 l1_28) else (rosterref13_SameRequest.j1 kj2 (a0_27 != a1_27) a0_0 a0_1 a0_2 a0_3 a0_4 a0_5 a0_6 a0_7 a0_8 a0_9 a0_10 a0_11 a0_12 a0_13 a0_14 l0_15 l0_16 a0_17 l0_18 l0_19 a0_20 a0_21 a0_22 a0_23 a0_24 a0_25 a0_26 a0_27 l0_28 a1_0 a1_1 a1_2 a1_3 a1_4 a1_5 a1_6 a1_7 a1_8 a1_9 a1_10 a1_11 a1_12 a1_13 a1_14 l1_15 l1_16 a1_17 l1_18 l1_19 a1_20 a1_21 a1_22 a1_23 a1_24 a1_25 a1_26 a1_27 l1_28)) else (rosterref13_SameRequest.j1 kj2 true a0_0 a0_1 a0_2 a0_3 a0_4 a0_5 a0_6 a0_7 a0_8 a0_9 a0_10 a0_11 a0_12 a0_13 a0_14 l0_15 l0_16 a0_17 l0_18 l0_19 a0_20 a0_21 a0_22 a0_23 a0_24 a0_25 a0_26 a0_27 l0_28 a1_0 a1_1 a1_2 a1_3 a1_4 a1_5 a1_6 a1_7 a1_8 a1_9 a1_10 a1_11 a1_12 a1_13 a1_14 l1_15 l1_16 a1_17 l1_18 l1_19 a1_20 a1_21 a1_22 a1_23 a1_24 a1_25 a1_26 a1_27 l1_28)) else (rosterref13_SameRequest.j1 kj2 true a0_0 a0_1 a0_2 a0_3 a0_4 a0_5 a0_6 a0_7 a0_8 a0_9 a0_10 a0_11 a0_12 a0_13 a0_14 l0_15 l0_16 a0_17 l0_18 l0_19 a0_20 a0_21 a0_22 a0_23 a0_24 a0_25 a0_26 a0_27 l0_28 a1_0 a1_1 a1_2 a1_3 a1_4 a1_5 a1_6 a1_7 a1_8 a1_9 a1_10 a1_11 a1_12 a1_13 a1_14 l1_15 l1_16 a1_17 l1_18 l1_19 a1_20 a1_21 a1_22 a1_23 a1_24 a1_25 a1_26 a1_27 l1_28))) else (rosterref13_SameRequest.j1 kj2 true a0_0 a0_1 a0_2 a0_3 a0_4 a0_5 a0_6 a0_7 a0_8 a0_9 a0_10 a0_11 a0_12 a0_13 a0_14 l0_15 l0_16 a0_17 l0_18 l0_19 a0_20 a0_21 a0_22 a0_23 a0_24 a0_25 a0_26 a0_27 l0_28 a1_0 a1_1 a1_2 a1_3 a1_4 a1_5 a1_6 a1_7 a1_8 a1_9 a1_10 a1_11 a1_12 a1_13 a1_14 l1_15 l1_16 a1_17 l1_18 l1_19 a1_20 a1_21 a1_22 a1_23 a1_24 a1_25 a1_26 a1_27 l1_28)) = some r := by rw [if_neg (show ¬ (false = true) by decide)] at H; exact H
    clear H
    have H := H1
    clear H1
    have HC30 := Aside0.mk H
    clear H
    go_upto_region 3 with (fail)
    go_cut [84] (fun v84 wc => ∃ (kq : Nat) (x84_29 : Bool), v84 = .bool x84_29 ∧ Aside0 (rosterref13_SameRequest.j1 kq x84_29 a0_0 a0_1 a0_2 a0_3 a0_4 a0_5 a0_6 a0_7 a0_8 a0_9 a0_10 a0_11 a0_12 a0_13 a0_14 l0_15 l0_16 a0_17 l0_18 l0_19 a0_20 a0_21 a0_22 a0_23 a0_24 a0_25 a0_26 a0_27 l0_28 a1_0 a1_1 a1_2 a1_3 a1_4 a1_5 a1_6 a1_7 a1_8 a1_9 a1_10 a1_11 a1_12 a1_13 a1_14 l1_15 l1_16 a1_17 l1_18 l1_19 a1_20 a1_21 a1_22 a1_23 a1_24 a1_25 a1_26 a1_27 l1_28 = some r) ∧ Aside0 (kq ≤ kj2) ∧ Aside0 (wc.heap[gb128]? = some (.cells #[.int .i64 a0_0, .int .i64 a0_1, .int .i64 a0_2, .string a0_3, .int .i64 a0_4, .string a0_5, .string a0_6, .string a0_7, .bool a0_8, .string a0_9, .int .i64 a0_10, .int .i64 a0_11, .int .i64 a0_12, .int .i64 a0_13, .bool a0_14, (.slice A0_15 l0_15.length c0_15), (.slice A0_16 l0_16.length c0_16), .string a0_17, (.slice A0_18 l0_18.length c0_18), (.slice A0_19 l0_19.length c0_19), .string a0_20, .bool a0_21, .string a0_22, .bool a0_23, .string a0_24, .string a0_25, .bool a0_26, .int .i64 a0_27, (.slice A0_28 l0_28.length c0_28)] 36 (0, 0))) ∧ Aside0 (wc.heap[gb129]? = some (.cells #[.int .i64 a1_0, .int .i64 a1_1, .int .i64 a1_2, .string a1_3, .int .i64 a1_4, .string a1_5, .string a1_6, .string a1_7, .bool a1_8, .string a1_9, .int .i64 a1_10, .int .i64 a1_11, .int .i64 a1_12, .int .i64 a1_13, .bool a1_14, (.slice A1_15 l1_15.length c1_15), (.slice A1_16 l1_16.length c1_16), .string a1_17, (.slice A1_18 l1_18.length c1_18), (.slice A1_19 l1_19.length c1_19), .string a1_20, .bool a1_21, .string a1_22, .bool a1_23, .string a1_24, .string a1_25, .bool a1_26, .int .i64 a1_27, (.slice A1_28 l1_28.length c1_28)] 36 (0, 0))) ∧ Aside0 (Below w.heap.size w wc))
    case first =>
     have H := HC30.out
     clear HC30
     by_cases c31 : a0_22.toList = a1_22.toList
     ·rw [if_pos c31] at H
      have c31b0 : (a0_22.toList == a1_22.toList) = true := beq_iff_eq.mpr c31
      have c31b1 : (a0_22.toList != a1_22.toList) = false := bne_eq_false_iff_eq.mpr c31
      clear c31
      (first | rw [c31b0] | (simp only [i64_w, i32_w]; rw [c31b0]) | skip)
      by_cases c32 : (a0_23 != a1_23) = true
      ·rw [if_pos c32] at H
       have c32b0 : (a0_23 != a1_23) = true := c32
       (try (have c32b1 : decide (a0_23 = a1_23) = false := by simpa using c32))
       (try (have c32b2 : (a0_23 == a1_23) = false := by simpa using c32))
       (try (have c32b3 : ¬ (a0_23 = a1_23) := by simpa using c32))
       clear c32
       have H' := Aside0.mk H
       clear H
       have hnb33 := NB128_129.out
       have hnc33 := NB129_128.out
       have hcz34_0 : wc.cell? ⟨gb128, 0, none⟩ = some (.int .i64 a0_0) := (blk_cell BK128.out 0).trans rfl
       have hcz34_1 : wc.cell? ⟨gb128, 1, none⟩ = some (.int .i64 a0_1) := (blk_cell BK128.out 1).trans rfl
       have hcz34_2 : wc.cell? ⟨gb128, 2, none⟩ = some (.int .i64 a0_2) := (blk_cell BK128.out 2).trans rfl
       have hcz34_3 : wc.cell? ⟨gb128, 3, none⟩ = some (.string a0_3) := (blk_cell BK128.out 3).trans rfl
       have hcz34_4 : wc.cell? ⟨gb128, 4, none⟩ = some (.int .i64 a0_4) := (blk_cell BK128.out 4).trans rfl
       have hcz34_5 : wc.cell? ⟨gb128, 5, none⟩ = some (.string a0_5) := (blk_cell BK128.out 5).trans rfl
       have hcz34_6 : wc.cell? ⟨gb128, 6, none⟩ = some (.string a0_6) := (blk_cell BK128.out 6).trans rfl
       have hcz34_7 : wc.cell? ⟨gb128, 7, none⟩ = some (.string a0_7) := (blk_cell BK128.out 7).trans rfl
       have hcz34_8 : wc.cell? ⟨gb128, 8, none⟩ = some (.bool a0_8) := (blk_cell BK128.out 8).trans rfl
       have hcz34_9 : wc.cell? ⟨gb128, 9, none⟩ = some (.string a0_9) := (blk_cell BK128.out 9).trans rfl
       have hcz34_10 : wc.cell? ⟨gb128, 10, none⟩ = some (.int .i64 a0_10) := (blk_cell BK128.out 10).trans rfl
       have hcz34_11 : wc.cell? ⟨gb128, 11, none⟩ = some (.int .i64 a0_11) := (blk_cell BK128.out 11).trans rfl
       have hcz34_12 : wc.cell? ⟨gb128, 12, none⟩ = some (.int .i64 a0_12) := (blk_cell BK128.out 12).trans rfl
       have hcz34_13 : wc.cell? ⟨gb128, 13, none⟩ = some (.int .i64 a0_13) := (blk_cell BK128.out 13).trans rfl
       have hcz34_14 : wc.cell? ⟨gb128, 14, none⟩ = some (.bool a0_14) := (blk_cell BK128.out 14).trans rfl
       have hcz34_15 : wc.cell? ⟨gb128, 15, none⟩ = some (.slice A0_15 l0_15.length c0_15) := (blk_cell BK128.out 15).trans rfl
       have hcz34_16 : wc.cell? ⟨gb128, 16, none⟩ = some (.slice A0_16 l0_16.length c0_16) := (blk_cell BK128.out 16).trans rfl
       have hcz34_17 : wc.cell? ⟨gb128, 17, none⟩ = some (.string a0_17) := (blk_cell BK128.out 17).trans rfl
       have hcz34_18 : wc.cell? ⟨gb128, 18, none⟩ = some (.slice A0_18 l0_18.length c0_18) := (blk_cell BK128.out 18).trans rfl
       have hcz34_19 : wc.cell? ⟨gb128, 19, none⟩ = some (.slice A0_19 l0_19.length c0_19) := (blk_cell BK128.out 19).trans rfl
       have hcz34_20 : wc.cell? ⟨gb128, 20, none⟩ = some (.string a0_20) := (blk_cell BK128.out 20).trans rfl
       have hcz34_21 : wc.cell? ⟨gb128, 21, none⟩ = some (.bool a0_21) := (blk_cell BK128.out 21).trans rfl
       have hcz34_22 : wc.cell? ⟨gb128, 22, none⟩ = some (.string a0_22) := (blk_cell BK128.out 22).trans rfl
       have hcz34_23 : wc.cell? ⟨gb128, 23, none⟩ = some (.bool a0_23) := (blk_cell BK128.out 23).trans rfl
       have hcz34_24 : wc.cell? ⟨gb128, 24, none⟩ = some (.string a0_24) := (blk_cell BK128.out 24).trans rfl
       have hcz34_25 : wc.cell? ⟨gb128, 25, none⟩ = some (.string a0_25) := (blk_cell BK128.out 25).trans rfl
       have hcz34_26 : wc.cell? ⟨gb128, 26, none⟩ = some (.bool a0_26) := (blk_cell BK128.out 26).trans rfl
       have hcz34_27 : wc.cell? ⟨gb128, 27, none⟩ = some (.int .i64 a0_27) := (blk_cell BK128.out 27).trans rfl
       have hcz34_28 : wc.cell? ⟨gb128, 28, none⟩ = some (.slice A0_28 l0_28.length c0_28) := (blk_cell BK128.out 28).trans rfl
       have hfz34_0 := blk_frozen BK128.out 0
       have hfz34_1 := blk_frozen BK128.out 1
       have hfz34_2 := blk_frozen BK128.out 2
       have hfz34_3 := blk_frozen BK128.out 3
       have hfz34_4 := blk_frozen BK128.out 4
       have hfz34_5 := blk_frozen BK128.out 5
       have hfz34_6 := blk_frozen BK128.out 6
       have hfz34_7 := blk_frozen BK128.out 7
       have hfz34_8 := blk_frozen BK128.out 8
       have hfz34_9 := blk_frozen BK128.out 9
       have hfz34_10 := blk_frozen BK128.out 10
       have hfz34_11 := blk_frozen BK128.out 11
       have hfz34_12 := blk_frozen BK128.out 12
       have hfz34_13 := blk_frozen BK128.out 13
       have hfz34_14 := blk_frozen BK128.out 14
       have hfz34_15 := blk_frozen BK128.out 15
       have hfz34_16 := blk_frozen BK128.out 16
       have hfz34_17 := blk_frozen BK128.out 17
       have hfz34_18 := blk_frozen BK128.out 18
       have hfz34_19 := blk_frozen BK128.out 19
       have hfz34_20 := blk_frozen BK128.out 20
       have hfz34_21 := blk_frozen BK128.out 21
       have hfz34_22 := blk_frozen BK128.out 22
       have hfz34_23 := blk_frozen BK128.out 23
       have hfz34_24 := blk_frozen BK128.out 24
       have hfz34_25 := blk_frozen BK128.out 25
       have hfz34_26 := blk_frozen BK128.out 26
       have hfz34_27 := blk_frozen BK128.out 27
       have hfz34_28 := blk_frozen BK128.out 28
       have hcz35_0 : wc.cell? ⟨gb129, 0, none⟩ = some (.int .i64 a1_0) := (blk_cell BK129.out 0).trans rfl
       have hcz35_1 : wc.cell? ⟨gb129, 1, none⟩ = some (.int .i64 a1_1) := (blk_cell BK129.out 1).trans rfl
       have hcz35_2 : wc.cell? ⟨gb129, 2, none⟩ = some (.int .i64 a1_2) := (blk_cell BK129.out 2).trans rfl
       have hcz35_3 : wc.cell? ⟨gb129, 3, none⟩ = some (.string a1_3) := (blk_cell BK129.out 3).trans rfl
       have hcz35_4 : wc.cell? ⟨gb129, 4, none⟩ = some (.int .i64 a1_4) := (blk_cell BK129.out 4).trans rfl
       have hcz35_5 : wc.cell? ⟨gb129, 5, none⟩ = some (.string a1_5) := (blk_cell BK129.out 5).trans rfl
       have hcz35_6 : wc.cell? ⟨gb129, 6, none⟩ = some (.string a1_6) := (blk_cell BK129.out 6).trans rfl
       have hcz35_7 : wc.cell? ⟨gb129, 7, none⟩ = some (.string a1_7) := (blk_cell BK129.out 7).trans rfl
       have hcz35_8 : wc.cell? ⟨gb129, 8, none⟩ = some (.bool a1_8) := (blk_cell BK129.out 8).trans rfl
       have hcz35_9 : wc.cell? ⟨gb129, 9, none⟩ = some (.string a1_9) := (blk_cell BK129.out 9).trans rfl
       have hcz35_10 : wc.cell? ⟨gb129, 10, none⟩ = some (.int .i64 a1_10) := (blk_cell BK129.out 10).trans rfl
       have hcz35_11 : wc.cell? ⟨gb129, 11, none⟩ = some (.int .i64 a1_11) := (blk_cell BK129.out 11).trans rfl
       have hcz35_12 : wc.cell? ⟨gb129, 12, none⟩ = some (.int .i64 a1_12) := (blk_cell BK129.out 12).trans rfl
       have hcz35_13 : wc.cell? ⟨gb129, 13, none⟩ = some (.int .i64 a1_13) := (blk_cell BK129.out 13).trans rfl
       have hcz35_14 : wc.cell? ⟨gb129, 14, none⟩ = some (.bool a1_14) := (blk_cell BK129.out 14).trans rfl
       have hcz35_15 : wc.cell? ⟨gb129, 15, none⟩ = some (.slice A1_15 l1_15.length c1_15) := (blk_cell BK129.out 15).trans rfl
       have hcz35_16 : wc.cell? ⟨gb129, 16, none⟩ = some (.slice A1_16 l1_16.length c1_16) := (blk_cell BK129.out 16).trans rfl
       have hcz35_17 : wc.cell? ⟨gb129, 17, none⟩ = some (.string a1_17) := (blk_cell BK129.out 17).trans rfl
       have hcz35_18 : wc.cell? ⟨gb129, 18, none⟩ = some (.slice A1_18 l1_18.length c1_18) := (blk_cell BK129.out 18).trans rfl
       have hcz35_19 : wc.cell? ⟨gb129, 19, none⟩ = some (.slice A1_19 l1_19.length c1_19) := (blk_cell BK129.out 19).trans rfl
       have hcz35_20 : wc.cell? ⟨gb129, 20, none⟩ = some (.string a1_20) := (blk_cell BK129.out 20).trans rfl
       have hcz35_21 : wc.cell? ⟨gb129, 21, none⟩ = some (.bool a1_21) := (blk_cell BK129.out 21).trans rfl
       have hcz35_22 : wc.cell? ⟨gb129, 22, none⟩ = some (.string a1_22) := (blk_cell BK129.out 22).trans rfl
       have hcz35_23 : wc.cell? ⟨gb129, 23, none⟩ = some (.bool a1_23) := (blk_cell BK129.out 23).trans rfl
       have hcz35_24 : wc.cell? ⟨gb129, 24, none⟩ = some (.string a1_24) := (blk_cell BK129.out 24).trans rfl
       have hcz35_25 : wc.cell? ⟨gb129, 25, none⟩ = some (.string a1_25) := (blk_cell BK129.out 25).trans rfl
       have hcz35_26 : wc.cell? ⟨gb129, 26, none⟩ = some (.bool a1_26) := (blk_cell BK129.out 26).trans rfl
       have hcz35_27 : wc.cell? ⟨gb129, 27, none⟩ = some (.int .i64 a1_27) := (blk_cell BK129.out 27).trans rfl
       have hcz35_28 : wc.cell? ⟨gb129, 28, none⟩ = some (.slice A1_28 l1_28.length c1_28) := (blk_cell BK129.out 28).trans rfl
       have hfz35_0 := blk_frozen BK129.out 0
       have hfz35_1 := blk_frozen BK129.out 1
       have hfz35_2 := blk_frozen BK129.out 2
       have hfz35_3 := blk_frozen BK129.out 3
       have hfz35_4 := blk_frozen BK129.out 4
       have hfz35_5 := blk_frozen BK129.out 5
       have hfz35_6 := blk_frozen BK129.out 6
       have hfz35_7 := blk_frozen BK129.out 7
       have hfz35_8 := blk_frozen BK129.out 8
       have hfz35_9 := blk_frozen BK129.out 9
       have hfz35_10 := blk_frozen BK129.out 10
       have hfz35_11 := blk_frozen BK129.out 11
       have hfz35_12 := blk_frozen BK129.out 12
       have hfz35_13 := blk_frozen BK129.out 13
       have hfz35_14 := blk_frozen BK129.out 14
       have hfz35_15 := blk_frozen BK129.out 15
       have hfz35_16 := blk_frozen BK129.out 16
       have hfz35_17 := blk_frozen BK129.out 17
       have hfz35_18 := blk_frozen BK129.out 18
       have hfz35_19 := blk_frozen BK129.out 19
       have hfz35_20 := blk_frozen BK129.out 20
       have hfz35_21 := blk_frozen BK129.out 21
       have hfz35_22 := blk_frozen BK129.out 22
       have hfz35_23 := blk_frozen BK129.out 23
       have hfz35_24 := blk_frozen BK129.out 24
       have hfz35_25 := blk_frozen BK129.out 25
       have hfz35_26 := blk_frozen BK129.out 26
       have hfz35_27 := blk_frozen BK129.out 27
       have hfz35_28 := blk_frozen BK129.out 28
       go_wp2
       go_meet
       case rel => exact ⟨_, (true), (by first | rfl | (simp; done) | (simp [*]; done) | (simp [isEmpty_ne_]; done)), H', ⟨by have := HJ2.out; first | omega | exact Nat.le_refl _⟩, ⟨by (with_reducible repeat (first | refine blk_drewN ?_ _ | refine blk_drew ?_ | refine blk_alloc ?_ _)); exact BK128.out⟩, ⟨by (with_reducible repeat (first | refine blk_drewN ?_ _ | refine blk_drew ?_ | refine blk_alloc ?_ _)); exact BK129.out⟩, ⟨by repeat (first | (with_reducible first | exact HB.out | apply below_alloc | apply pw_below_drewN | apply below_drew1 | refine below_set ?_ GE128.out | refine below_set ?_ GE129.out) | exact HB.out)⟩⟩
      ·rw [if_neg c32] at H
       have c32b0 : (a0_23 != a1_23) = false := by simpa using c32
       (try (have c32b1 : decide (a0_23 = a1_23) = true := by simpa using c32))
       (try (have c32b2 : (a0_23 == a1_23) = true := by simpa using c32))
       clear c32
       by_cases c36 : a0_24.toList = a1_24.toList
       ·rw [if_pos c36] at H
        have c36b0 : (a0_24.toList == a1_24.toList) = true := beq_iff_eq.mpr c36
        have c36b1 : (a0_24.toList != a1_24.toList) = false := bne_eq_false_iff_eq.mpr c36
        clear c36
        by_cases c37 : a0_25.toList = a1_25.toList
        ·rw [if_pos c37] at H
         have c37b0 : (a0_25.toList == a1_25.toList) = true := beq_iff_eq.mpr c37
         have c37b1 : (a0_25.toList != a1_25.toList) = false := bne_eq_false_iff_eq.mpr c37
         clear c37
         by_cases c38 : (a0_26 != a1_26) = true
         ·rw [if_pos c38] at H
          have c38b0 : (a0_26 != a1_26) = true := c38
          (try (have c38b1 : decide (a0_26 = a1_26) = false := by simpa using c38))
          (try (have c38b2 : (a0_26 == a1_26) = false := by simpa using c38))
          (try (have c38b3 : ¬ (a0_26 = a1_26) := by simpa using c38))
          clear c38
          have H' := Aside0.mk H
          clear H
          have hnb39 := NB128_129.out
          have hnc39 := NB129_128.out
          have hcz40_0 : wc.cell? ⟨gb128, 0, none⟩ = some (.int .i64 a0_0) := (blk_cell BK128.out 0).trans rfl
          have hcz40_1 : wc.cell? ⟨gb128, 1, none⟩ = some (.int .i64 a0_1) := (blk_cell BK128.out 1).trans rfl
          have hcz40_2 : wc.cell? ⟨gb128, 2, none⟩ = some (.int .i64 a0_2) := (blk_cell BK128.out 2).trans rfl
          have hcz40_3 : wc.cell? ⟨gb128, 3, none⟩ = some (.string a0_3) := (blk_cell BK128.out 3).trans rfl
          have hcz40_4 : wc.cell? ⟨gb128, 4, none⟩ = some (.int .i64 a0_4) := (blk_cell BK128.out 4).trans rfl
          have hcz40_5 : wc.cell? ⟨gb128, 5, none⟩ = some (.string a0_5) := (blk_cell BK128.out 5).trans rfl
          have hcz40_6 : wc.cell? ⟨gb128, 6, none⟩ = some (.string a0_6) := (blk_cell BK128.out 6).trans rfl
          have hcz40_7 : wc.cell? ⟨gb128, 7, none⟩ = some (.string a0_7) := (blk_cell BK128.out 7).trans rfl
          have hcz40_8 : wc.cell? ⟨gb128, 8, none⟩ = some (.bool a0_8) := (blk_cell BK128.out 8).trans rfl
          have hcz40_9 : wc.cell? ⟨gb128, 9, none⟩ = some (.string a0_9) := (blk_cell BK128.out 9).trans rfl
          have hcz40_10 : wc.cell? ⟨gb128, 10, none⟩ = some (.int .i64 a0_10) := (blk_cell BK128.out 10).trans rfl
          have hcz40_11 : wc.cell? ⟨gb128, 11, none⟩ = some (.int .i64 a0_11) := (blk_cell BK128.out 11).trans rfl
          have hcz40_12 : wc.cell? ⟨gb128, 12, none⟩ = some (.int .i64 a0_12) := (blk_cell BK128.out 12).trans rfl
          have hcz40_13 : wc.cell? ⟨gb128, 13, none⟩ = some (.int .i64 a0_13) := (blk_cell BK128.out 13).trans rfl
          have hcz40_14 : wc.cell? ⟨gb128, 14, none⟩ = some (.bool a0_14) := (blk_cell BK128.out 14).trans rfl
          have hcz40_15 : wc.cell? ⟨gb128, 15, none⟩ = some (.slice A0_15 l0_15.length c0_15) := (blk_cell BK128.out 15).trans rfl
          have hcz40_16 : wc.cell? ⟨gb128, 16, none⟩ = some (.slice A0_16 l0_16.length c0_16) := (blk_cell BK128.out 16).trans rfl
          have hcz40_17 : wc.cell? ⟨gb128, 17, none⟩ = some (.string a0_17) := (blk_cell BK128.out 17).trans rfl
          have hcz40_18 : wc.cell? ⟨gb128, 18, none⟩ = some (.slice A0_18 l0_18.length c0_18) := (blk_cell BK128.out 18).trans rfl
          have hcz40_19 : wc.cell? ⟨gb128, 19, none⟩ = some (.slice A0_19 l0_19.length c0_19) := (blk_cell BK128.out 19).trans rfl
          have hcz40_20 : wc.cell? ⟨gb128, 20, none⟩ = some (.string a0_20) := (blk_cell BK128.out 20).trans rfl
          have hcz40_21 : wc.cell? ⟨gb128, 21, none⟩ = some (.bool a0_21) := (blk_cell BK128.out 21).trans rfl
          have hcz40_22 : wc.cell? ⟨gb128, 22, none⟩ = some (.string a0_22) := (blk_cell BK128.out 22).trans rfl
          have hcz40_23 : wc.cell? ⟨gb128, 23, none⟩ = some (.bool a0_23) := (blk_cell BK128.out 23).trans rfl
          have hcz40_24 : wc.cell? ⟨gb128, 24, none⟩ = some (.string a0_24) := (blk_cell BK128.out 24).trans rfl
          have hcz40_25 : wc.cell? ⟨gb128, 25, none⟩ = some (.string a0_25) := (blk_cell BK128.out 25).trans rfl
          have hcz40_26 : wc.cell? ⟨gb128, 26, none⟩ = some (.bool a0_26) := (blk_cell BK128.out 26).trans rfl
          have hcz40_27 : wc.cell? ⟨gb128, 27, none⟩ = some (.int .i64 a0_27) := (blk_cell BK128.out 27).trans rfl
          have hcz40_28 : wc.cell? ⟨gb128, 28, none⟩ = some (.slice A0_28 l0_28.length c0_28) := (blk_cell BK128.out 28).trans rfl
          have hfz40_0 := blk_frozen BK128.out 0
          have hfz40_1 := blk_frozen BK128.out 1
          have hfz40_2 := blk_frozen BK128.out 2
          have hfz40_3 := blk_frozen BK128.out 3
          have hfz40_4 := blk_frozen BK128.out 4
          have hfz40_5 := blk_frozen BK128.out 5
          have hfz40_6 := blk_frozen BK128.out 6
          have hfz40_7 := blk_frozen BK128.out 7
          have hfz40_8 := blk_frozen BK128.out 8
          have hfz40_9 := blk_frozen BK128.out 9
          have hfz40_10 := blk_frozen BK128.out 10
          have hfz40_11 := blk_frozen BK128.out 11
          have hfz40_12 := blk_frozen BK128.out 12
          have hfz40_13 := blk_frozen BK128.out 13
          have hfz40_14 := blk_frozen BK128.out 14
          have hfz40_15 := blk_frozen BK128.out 15
          have hfz40_16 := blk_frozen BK128.out 16
          have hfz40_17 := blk_frozen BK128.out 17
          have hfz40_18 := blk_frozen BK128.out 18
          have hfz40_19 := blk_frozen BK128.out 19
          have hfz40_20 := blk_frozen BK128.out 20
          have hfz40_21 := blk_frozen BK128.out 21
          have hfz40_22 := blk_frozen BK128.out 22
          have hfz40_23 := blk_frozen BK128.out 23
          have hfz40_24 := blk_frozen BK128.out 24
          have hfz40_25 := blk_frozen BK128.out 25
          have hfz40_26 := blk_frozen BK128.out 26
          have hfz40_27 := blk_frozen BK128.out 27
          have hfz40_28 := blk_frozen BK128.out 28
          have hcz41_0 : wc.cell? ⟨gb129, 0, none⟩ = some (.int .i64 a1_0) := (blk_cell BK129.out 0).trans rfl
          have hcz41_1 : wc.cell? ⟨gb129, 1, none⟩ = some (.int .i64 a1_1) := (blk_cell BK129.out 1).trans rfl
          have hcz41_2 : wc.cell? ⟨gb129, 2, none⟩ = some (.int .i64 a1_2) := (blk_cell BK129.out 2).trans rfl
          have hcz41_3 : wc.cell? ⟨gb129, 3, none⟩ = some (.string a1_3) := (blk_cell BK129.out 3).trans rfl
          have hcz41_4 : wc.cell? ⟨gb129, 4, none⟩ = some (.int .i64 a1_4) := (blk_cell BK129.out 4).trans rfl
          have hcz41_5 : wc.cell? ⟨gb129, 5, none⟩ = some (.string a1_5) := (blk_cell BK129.out 5).trans rfl
          have hcz41_6 : wc.cell? ⟨gb129, 6, none⟩ = some (.string a1_6) := (blk_cell BK129.out 6).trans rfl
          have hcz41_7 : wc.cell? ⟨gb129, 7, none⟩ = some (.string a1_7) := (blk_cell BK129.out 7).trans rfl
          have hcz41_8 : wc.cell? ⟨gb129, 8, none⟩ = some (.bool a1_8) := (blk_cell BK129.out 8).trans rfl
          have hcz41_9 : wc.cell? ⟨gb129, 9, none⟩ = some (.string a1_9) := (blk_cell BK129.out 9).trans rfl
          have hcz41_10 : wc.cell? ⟨gb129, 10, none⟩ = some (.int .i64 a1_10) := (blk_cell BK129.out 10).trans rfl
          have hcz41_11 : wc.cell? ⟨gb129, 11, none⟩ = some (.int .i64 a1_11) := (blk_cell BK129.out 11).trans rfl
          have hcz41_12 : wc.cell? ⟨gb129, 12, none⟩ = some (.int .i64 a1_12) := (blk_cell BK129.out 12).trans rfl
          have hcz41_13 : wc.cell? ⟨gb129, 13, none⟩ = some (.int .i64 a1_13) := (blk_cell BK129.out 13).trans rfl
          have hcz41_14 : wc.cell? ⟨gb129, 14, none⟩ = some (.bool a1_14) := (blk_cell BK129.out 14).trans rfl
          have hcz41_15 : wc.cell? ⟨gb129, 15, none⟩ = some (.slice A1_15 l1_15.length c1_15) := (blk_cell BK129.out 15).trans rfl
          have hcz41_16 : wc.cell? ⟨gb129, 16, none⟩ = some (.slice A1_16 l1_16.length c1_16) := (blk_cell BK129.out 16).trans rfl
          have hcz41_17 : wc.cell? ⟨gb129, 17, none⟩ = some (.string a1_17) := (blk_cell BK129.out 17).trans rfl
          have hcz41_18 : wc.cell? ⟨gb129, 18, none⟩ = some (.slice A1_18 l1_18.length c1_18) := (blk_cell BK129.out 18).trans rfl
          have hcz41_19 : wc.cell? ⟨gb129, 19, none⟩ = some (.slice A1_19 l1_19.length c1_19) := (blk_cell BK129.out 19).trans rfl
          have hcz41_20 : wc.cell? ⟨gb129, 20, none⟩ = some (.string a1_20) := (blk_cell BK129.out 20).trans rfl
          have hcz41_21 : wc.cell? ⟨gb129, 21, none⟩ = some (.bool a1_21) := (blk_cell BK129.out 21).trans rfl
          have hcz41_22 : wc.cell? ⟨gb129, 22, none⟩ = some (.string a1_22) := (blk_cell BK129.out 22).trans rfl
          have hcz41_23 : wc.cell? ⟨gb129, 23, none⟩ = some (.bool a1_23) := (blk_cell BK129.out 23).trans rfl
          have hcz41_24 : wc.cell? ⟨gb129, 24, none⟩ = some (.string a1_24) := (blk_cell BK129.out 24).trans rfl
          have hcz41_25 : wc.cell? ⟨gb129, 25, none⟩ = some (.string a1_25) := (blk_cell BK129.out 25).trans rfl
          have hcz41_26 : wc.cell? ⟨gb129, 26, none⟩ = some (.bool a1_26) := (blk_cell BK129.out 26).trans rfl
          have hcz41_27 : wc.cell? ⟨gb129, 27, none⟩ = some (.int .i64 a1_27) := (blk_cell BK129.out 27).trans rfl
          have hcz41_28 : wc.cell? ⟨gb129, 28, none⟩ = some (.slice A1_28 l1_28.length c1_28) := (blk_cell BK129.out 28).trans rfl
          have hfz41_0 := blk_frozen BK129.out 0
          have hfz41_1 := blk_frozen BK129.out 1
          have hfz41_2 := blk_frozen BK129.out 2
          have hfz41_3 := blk_frozen BK129.out 3
          have hfz41_4 := blk_frozen BK129.out 4
          have hfz41_5 := blk_frozen BK129.out 5
          have hfz41_6 := blk_frozen BK129.out 6
          have hfz41_7 := blk_frozen BK129.out 7
          have hfz41_8 := blk_frozen BK129.out 8
          have hfz41_9 := blk_frozen BK129.out 9
          have hfz41_10 := blk_frozen BK129.out 10
          have hfz41_11 := blk_frozen BK129.out 11
          have hfz41_12 := blk_frozen BK129.out 12
          have hfz41_13 := blk_frozen BK129.out 13
          have hfz41_14 := blk_frozen BK129.out 14
          have hfz41_15 := blk_frozen BK129.out 15
          have hfz41_16 := blk_frozen BK129.out 16
          have hfz41_17 := blk_frozen BK129.out 17
          have hfz41_18 := blk_frozen BK129.out 18
          have hfz41_19 := blk_frozen BK129.out 19
          have hfz41_20 := blk_frozen BK129.out 20
          have hfz41_21 := blk_frozen BK129.out 21
          have hfz41_22 := blk_frozen BK129.out 22
          have hfz41_23 := blk_frozen BK129.out 23
          have hfz41_24 := blk_frozen BK129.out 24
          have hfz41_25 := blk_frozen BK129.out 25
          have hfz41_26 := blk_frozen BK129.out 26
          have hfz41_27 := blk_frozen BK129.out 27
          have hfz41_28 := blk_frozen BK129.out 28
          go_wp2
          go_meet
          case rel => exact ⟨_, (true), (by first | rfl | (simp; done) | (simp [*]; done) | (simp [isEmpty_ne_]; done)), H', ⟨by have := HJ2.out; first | omega | exact Nat.le_refl _⟩, ⟨by (with_reducible repeat (first | refine blk_drewN ?_ _ | refine blk_drew ?_ | refine blk_alloc ?_ _)); exact BK128.out⟩, ⟨by (with_reducible repeat (first | refine blk_drewN ?_ _ | refine blk_drew ?_ | refine blk_alloc ?_ _)); exact BK129.out⟩, ⟨by repeat (first | (with_reducible first | exact HB.out | apply below_alloc | apply pw_below_drewN | apply below_drew1 | refine below_set ?_ GE128.out | refine below_set ?_ GE129.out) | exact HB.out)⟩⟩
         ·rw [if_neg c38] at H
          have c38b0 : (a0_26 != a1_26) = false := by simpa using c38
          (try (have c38b1 : decide (a0_26 = a1_26) = true := by simpa using c38))
          (try (have c38b2 : (a0_26 == a1_26) = true := by simpa using c38))
          clear c38
          have H' := Aside0.mk H
          clear H
          have hnb42 := NB128_129.out
          have hnc42 := NB129_128.out
          have hcz43_0 : wc.cell? ⟨gb128, 0, none⟩ = some (.int .i64 a0_0) := (blk_cell BK128.out 0).trans rfl
          have hcz43_1 : wc.cell? ⟨gb128, 1, none⟩ = some (.int .i64 a0_1) := (blk_cell BK128.out 1).trans rfl
          have hcz43_2 : wc.cell? ⟨gb128, 2, none⟩ = some (.int .i64 a0_2) := (blk_cell BK128.out 2).trans rfl
          have hcz43_3 : wc.cell? ⟨gb128, 3, none⟩ = some (.string a0_3) := (blk_cell BK128.out 3).trans rfl
          have hcz43_4 : wc.cell? ⟨gb128, 4, none⟩ = some (.int .i64 a0_4) := (blk_cell BK128.out 4).trans rfl
          have hcz43_5 : wc.cell? ⟨gb128, 5, none⟩ = some (.string a0_5) := (blk_cell BK128.out 5).trans rfl
          have hcz43_6 : wc.cell? ⟨gb128, 6, none⟩ = some (.string a0_6) := (blk_cell BK128.out 6).trans rfl
          have hcz43_7 : wc.cell? ⟨gb128, 7, none⟩ = some (.string a0_7) := (blk_cell BK128.out 7).trans rfl
          have hcz43_8 : wc.cell? ⟨gb128, 8, none⟩ = some (.bool a0_8) := (blk_cell BK128.out 8).trans rfl
          have hcz43_9 : wc.cell? ⟨gb128, 9, none⟩ = some (.string a0_9) := (blk_cell BK128.out 9).trans rfl
          have hcz43_10 : wc.cell? ⟨gb128, 10, none⟩ = some (.int .i64 a0_10) := (blk_cell BK128.out 10).trans rfl
          have hcz43_11 : wc.cell? ⟨gb128, 11, none⟩ = some (.int .i64 a0_11) := (blk_cell BK128.out 11).trans rfl
          have hcz43_12 : wc.cell? ⟨gb128, 12, none⟩ = some (.int .i64 a0_12) := (blk_cell BK128.out 12).trans rfl
          have hcz43_13 : wc.cell? ⟨gb128, 13, none⟩ = some (.int .i64 a0_13) := (blk_cell BK128.out 13).trans rfl
          have hcz43_14 : wc.cell? ⟨gb128, 14, none⟩ = some (.bool a0_14) := (blk_cell BK128.out 14).trans rfl
          have hcz43_15 : wc.cell? ⟨gb128, 15, none⟩ = some (.slice A0_15 l0_15.length c0_15) := (blk_cell BK128.out 15).trans rfl
          have hcz43_16 : wc.cell? ⟨gb128, 16, none⟩ = some (.slice A0_16 l0_16.length c0_16) := (blk_cell BK128.out 16).trans rfl
          have hcz43_17 : wc.cell? ⟨gb128, 17, none⟩ = some (.string a0_17) := (blk_cell BK128.out 17).trans rfl
          have hcz43_18 : wc.cell? ⟨gb128, 18, none⟩ = some (.slice A0_18 l0_18.length c0_18) := (blk_cell BK128.out 18).trans rfl
          have hcz43_19 : wc.cell? ⟨gb128, 19, none⟩ = some (.slice A0_19 l0_19.length c0_19) := (blk_cell BK128.out 19).trans rfl
          have hcz43_20 : wc.cell? ⟨gb128, 20, none⟩ = some (.string a0_20) := (blk_cell BK128.out 20).trans rfl
          have hcz43_21 : wc.cell? ⟨gb128, 21, none⟩ = some (.bool a0_21) := (blk_cell BK128.out 21).trans rfl
          have hcz43_22 : wc.cell? ⟨gb128, 22, none⟩ = some (.string a0_22) := (blk_cell BK128.out 22).trans rfl
          have hcz43_23 : wc.cell? ⟨gb128, 23, none⟩ = some (.bool a0_23) := (blk_cell BK128.out 23).trans rfl
          have hcz43_24 : wc.cell? ⟨gb128, 24, none⟩ = some (.string a0_24) := (blk_cell BK128.out 24).trans rfl
          have hcz43_25 : wc.cell? ⟨gb128, 25, none⟩ = some (.string a0_25) := (blk_cell BK128.out 25).trans rfl
          have hcz43_26 : wc.cell? ⟨gb128, 26, none⟩ = some (.bool a0_26) := (blk_cell BK128.out 26).trans rfl
          have hcz43_27 : wc.cell? ⟨gb128, 27, none⟩ = some (.int .i64 a0_27) := (blk_cell BK128.out 27).trans rfl
          have hcz43_28 : wc.cell? ⟨gb128, 28, none⟩ = some (.slice A0_28 l0_28.length c0_28) := (blk_cell BK128.out 28).trans rfl
          have hfz43_0 := blk_frozen BK128.out 0
          have hfz43_1 := blk_frozen BK128.out 1
          have hfz43_2 := blk_frozen BK128.out 2
          have hfz43_3 := blk_frozen BK128.out 3
          have hfz43_4 := blk_frozen BK128.out 4
          have hfz43_5 := blk_frozen BK128.out 5
          have hfz43_6 := blk_frozen BK128.out 6
          have hfz43_7 := blk_frozen BK128.out 7
          have hfz43_8 := blk_frozen BK128.out 8
          have hfz43_9 := blk_frozen BK128.out 9
          have hfz43_10 := blk_frozen BK128.out 10
          have hfz43_11 := blk_frozen BK128.out 11
          have hfz43_12 := blk_frozen BK128.out 12
          have hfz43_13 := blk_frozen BK128.out 13
          have hfz43_14 := blk_frozen BK128.out 14
          have hfz43_15 := blk_frozen BK128.out 15
          have hfz43_16 := blk_frozen BK128.out 16
          have hfz43_17 := blk_frozen BK128.out 17
          have hfz43_18 := blk_frozen BK128.out 18
          have hfz43_19 := blk_frozen BK128.out 19
          have hfz43_20 := blk_frozen BK128.out 20
          have hfz43_21 := blk_frozen BK128.out 21
          have hfz43_22 := blk_frozen BK128.out 22
          have hfz43_23 := blk_frozen BK128.out 23
          have hfz43_24 := blk_frozen BK128.out 24
          have hfz43_25 := blk_frozen BK128.out 25
          have hfz43_26 := blk_frozen BK128.out 26
          have hfz43_27 := blk_frozen BK128.out 27
          have hfz43_28 := blk_frozen BK128.out 28
          have hcz44_0 : wc.cell? ⟨gb129, 0, none⟩ = some (.int .i64 a1_0) := (blk_cell BK129.out 0).trans rfl
          have hcz44_1 : wc.cell? ⟨gb129, 1, none⟩ = some (.int .i64 a1_1) := (blk_cell BK129.out 1).trans rfl
          have hcz44_2 : wc.cell? ⟨gb129, 2, none⟩ = some (.int .i64 a1_2) := (blk_cell BK129.out 2).trans rfl
          have hcz44_3 : wc.cell? ⟨gb129, 3, none⟩ = some (.string a1_3) := (blk_cell BK129.out 3).trans rfl
          have hcz44_4 : wc.cell? ⟨gb129, 4, none⟩ = some (.int .i64 a1_4) := (blk_cell BK129.out 4).trans rfl
          have hcz44_5 : wc.cell? ⟨gb129, 5, none⟩ = some (.string a1_5) := (blk_cell BK129.out 5).trans rfl
          have hcz44_6 : wc.cell? ⟨gb129, 6, none⟩ = some (.string a1_6) := (blk_cell BK129.out 6).trans rfl
          have hcz44_7 : wc.cell? ⟨gb129, 7, none⟩ = some (.string a1_7) := (blk_cell BK129.out 7).trans rfl
          have hcz44_8 : wc.cell? ⟨gb129, 8, none⟩ = some (.bool a1_8) := (blk_cell BK129.out 8).trans rfl
          have hcz44_9 : wc.cell? ⟨gb129, 9, none⟩ = some (.string a1_9) := (blk_cell BK129.out 9).trans rfl
          have hcz44_10 : wc.cell? ⟨gb129, 10, none⟩ = some (.int .i64 a1_10) := (blk_cell BK129.out 10).trans rfl
          have hcz44_11 : wc.cell? ⟨gb129, 11, none⟩ = some (.int .i64 a1_11) := (blk_cell BK129.out 11).trans rfl
          have hcz44_12 : wc.cell? ⟨gb129, 12, none⟩ = some (.int .i64 a1_12) := (blk_cell BK129.out 12).trans rfl
          have hcz44_13 : wc.cell? ⟨gb129, 13, none⟩ = some (.int .i64 a1_13) := (blk_cell BK129.out 13).trans rfl
          have hcz44_14 : wc.cell? ⟨gb129, 14, none⟩ = some (.bool a1_14) := (blk_cell BK129.out 14).trans rfl
          have hcz44_15 : wc.cell? ⟨gb129, 15, none⟩ = some (.slice A1_15 l1_15.length c1_15) := (blk_cell BK129.out 15).trans rfl
          have hcz44_16 : wc.cell? ⟨gb129, 16, none⟩ = some (.slice A1_16 l1_16.length c1_16) := (blk_cell BK129.out 16).trans rfl
          have hcz44_17 : wc.cell? ⟨gb129, 17, none⟩ = some (.string a1_17) := (blk_cell BK129.out 17).trans rfl
          have hcz44_18 : wc.cell? ⟨gb129, 18, none⟩ = some (.slice A1_18 l1_18.length c1_18) := (blk_cell BK129.out 18).trans rfl
          have hcz44_19 : wc.cell? ⟨gb129, 19, none⟩ = some (.slice A1_19 l1_19.length c1_19) := (blk_cell BK129.out 19).trans rfl
          have hcz44_20 : wc.cell? ⟨gb129, 20, none⟩ = some (.string a1_20) := (blk_cell BK129.out 20).trans rfl
          have hcz44_21 : wc.cell? ⟨gb129, 21, none⟩ = some (.bool a1_21) := (blk_cell BK129.out 21).trans rfl
          have hcz44_22 : wc.cell? ⟨gb129, 22, none⟩ = some (.string a1_22) := (blk_cell BK129.out 22).trans rfl
          have hcz44_23 : wc.cell? ⟨gb129, 23, none⟩ = some (.bool a1_23) := (blk_cell BK129.out 23).trans rfl
          have hcz44_24 : wc.cell? ⟨gb129, 24, none⟩ = some (.string a1_24) := (blk_cell BK129.out 24).trans rfl
          have hcz44_25 : wc.cell? ⟨gb129, 25, none⟩ = some (.string a1_25) := (blk_cell BK129.out 25).trans rfl
          have hcz44_26 : wc.cell? ⟨gb129, 26, none⟩ = some (.bool a1_26) := (blk_cell BK129.out 26).trans rfl
          have hcz44_27 : wc.cell? ⟨gb129, 27, none⟩ = some (.int .i64 a1_27) := (blk_cell BK129.out 27).trans rfl
          have hcz44_28 : wc.cell? ⟨gb129, 28, none⟩ = some (.slice A1_28 l1_28.length c1_28) := (blk_cell BK129.out 28).trans rfl
          have hfz44_0 := blk_frozen BK129.out 0
          have hfz44_1 := blk_frozen BK129.out 1
          have hfz44_2 := blk_frozen BK129.out 2
          have hfz44_3 := blk_frozen BK129.out 3
          have hfz44_4 := blk_frozen BK129.out 4
          have hfz44_5 := blk_frozen BK129.out 5
          have hfz44_6 := blk_frozen BK129.out 6
          have hfz44_7 := blk_frozen BK129.out 7
          have hfz44_8 := blk_frozen BK129.out 8
          have hfz44_9 := blk_frozen BK129.out 9
          have hfz44_10 := blk_frozen BK129.out 10
          have hfz44_11 := blk_frozen BK129.out 11
          have hfz44_12 := blk_frozen BK129.out 12
          have hfz44_13 := blk_frozen BK129.out 13
          have hfz44_14 := blk_frozen BK129.out 14
          have hfz44_15 := blk_frozen BK129.out 15
          have hfz44_16 := blk_frozen BK129.out 16
          have hfz44_17 := blk_frozen BK129.out 17
          have hfz44_18 := blk_frozen BK129.out 18
          have hfz44_19 := blk_frozen BK129.out 19
          have hfz44_20 := blk_frozen BK129.out 20
          have hfz44_21 := blk_frozen BK129.out 21
          have hfz44_22 := blk_frozen BK129.out 22
          have hfz44_23 := blk_frozen BK129.out 23
          have hfz44_24 := blk_frozen BK129.out 24
          have hfz44_25 := blk_frozen BK129.out 25
          have hfz44_26 := blk_frozen BK129.out 26
          have hfz44_27 := blk_frozen BK129.out 27
          have hfz44_28 := blk_frozen BK129.out 28
          go_wp2
          go_meet
          case rel => exact ⟨_, ((a0_27 != a1_27)), (by first | rfl | (simp; done) | (simp [*]; done) | (simp [isEmpty_ne_]; done)), H', ⟨by have := HJ2.out; first | omega | exact Nat.le_refl _⟩, ⟨by (with_reducible repeat (first | refine blk_drewN ?_ _ | refine blk_drew ?_ | refine blk_alloc ?_ _)); exact BK128.out⟩, ⟨by (with_reducible repeat (first | refine blk_drewN ?_ _ | refine blk_drew ?_ | refine blk_alloc ?_ _)); exact BK129.out⟩, ⟨by repeat (first | (with_reducible first | exact HB.out | apply below_alloc | apply pw_below_drewN | apply below_drew1 | refine below_set ?_ GE128.out | refine below_set ?_ GE129.out) | exact HB.out)⟩⟩
        ·rw [if_neg c37] at H
         have c37b0 : (a0_25.toList == a1_25.toList) = false := beq_eq_false_iff_ne.mpr c37
         have c37b1 : (a0_25.toList != a1_25.toList) = true := bne_iff_ne.mpr c37
         have H' := Aside0.mk H
         clear H
         have hnb45 := NB128_129.out
         have hnc45 := NB129_128.out
         have hcz46_0 : wc.cell? ⟨gb128, 0, none⟩ = some (.int .i64 a0_0) := (blk_cell BK128.out 0).trans rfl
         have hcz46_1 : wc.cell? ⟨gb128, 1, none⟩ = some (.int .i64 a0_1) := (blk_cell BK128.out 1).trans rfl
         have hcz46_2 : wc.cell? ⟨gb128, 2, none⟩ = some (.int .i64 a0_2) := (blk_cell BK128.out 2).trans rfl
         have hcz46_3 : wc.cell? ⟨gb128, 3, none⟩ = some (.string a0_3) := (blk_cell BK128.out 3).trans rfl
         have hcz46_4 : wc.cell? ⟨gb128, 4, none⟩ = some (.int .i64 a0_4) := (blk_cell BK128.out 4).trans rfl
         have hcz46_5 : wc.cell? ⟨gb128, 5, none⟩ = some (.string a0_5) := (blk_cell BK128.out 5).trans rfl
         have hcz46_6 : wc.cell? ⟨gb128, 6, none⟩ = some (.string a0_6) := (blk_cell BK128.out 6).trans rfl
         have hcz46_7 : wc.cell? ⟨gb128, 7, none⟩ = some (.string a0_7) := (blk_cell BK128.out 7).trans rfl
         have hcz46_8 : wc.cell? ⟨gb128, 8, none⟩ = some (.bool a0_8) := (blk_cell BK128.out 8).trans rfl
         have hcz46_9 : wc.cell? ⟨gb128, 9, none⟩ = some (.string a0_9) := (blk_cell BK128.out 9).trans rfl
         have hcz46_10 : wc.cell? ⟨gb128, 10, none⟩ = some (.int .i64 a0_10) := (blk_cell BK128.out 10).trans rfl
         have hcz46_11 : wc.cell? ⟨gb128, 11, none⟩ = some (.int .i64 a0_11) := (blk_cell BK128.out 11).trans rfl
         have hcz46_12 : wc.cell? ⟨gb128, 12, none⟩ = some (.int .i64 a0_12) := (blk_cell BK128.out 12).trans rfl
         have hcz46_13 : wc.cell? ⟨gb128, 13, none⟩ = some (.int .i64 a0_13) := (blk_cell BK128.out 13).trans rfl
         have hcz46_14 : wc.cell? ⟨gb128, 14, none⟩ = some (.bool a0_14) := (blk_cell BK128.out 14).trans rfl
         have hcz46_15 : wc.cell? ⟨gb128, 15, none⟩ = some (.slice A0_15 l0_15.length c0_15) := (blk_cell BK128.out 15).trans rfl
         have hcz46_16 : wc.cell? ⟨gb128, 16, none⟩ = some (.slice A0_16 l0_16.length c0_16) := (blk_cell BK128.out 16).trans rfl
         have hcz46_17 : wc.cell? ⟨gb128, 17, none⟩ = some (.string a0_17) := (blk_cell BK128.out 17).trans rfl
         have hcz46_18 : wc.cell? ⟨gb128, 18, none⟩ = some (.slice A0_18 l0_18.length c0_18) := (blk_cell BK128.out 18).trans rfl
         have hcz46_19 : wc.cell? ⟨gb128, 19, none⟩ = some (.slice A0_19 l0_19.length c0_19) := (blk_cell BK128.out 19).trans rfl
         have hcz46_20 : wc.cell? ⟨gb128, 20, none⟩ = some (.string a0_20) := (blk_cell BK128.out 20).trans rfl
         have hcz46_21 : wc.cell? ⟨gb128, 21, none⟩ = some (.bool a0_21) := (blk_cell BK128.out 21).trans rfl
         have hcz46_22 : wc.cell? ⟨gb128, 22, none⟩ = some (.string a0_22) := (blk_cell BK128.out 22).trans rfl
         have hcz46_23 : wc.cell? ⟨gb128, 23, none⟩ = some (.bool a0_23) := (blk_cell BK128.out 23).trans rfl
         have hcz46_24 : wc.cell? ⟨gb128, 24, none⟩ = some (.string a0_24) := (blk_cell BK128.out 24).trans rfl
         have hcz46_25 : wc.cell? ⟨gb128, 25, none⟩ = some (.string a0_25) := (blk_cell BK128.out 25).trans rfl
         have hcz46_26 : wc.cell? ⟨gb128, 26, none⟩ = some (.bool a0_26) := (blk_cell BK128.out 26).trans rfl
         have hcz46_27 : wc.cell? ⟨gb128, 27, none⟩ = some (.int .i64 a0_27) := (blk_cell BK128.out 27).trans rfl
         have hcz46_28 : wc.cell? ⟨gb128, 28, none⟩ = some (.slice A0_28 l0_28.length c0_28) := (blk_cell BK128.out 28).trans rfl
         have hfz46_0 := blk_frozen BK128.out 0
         have hfz46_1 := blk_frozen BK128.out 1
         have hfz46_2 := blk_frozen BK128.out 2
         have hfz46_3 := blk_frozen BK128.out 3
         have hfz46_4 := blk_frozen BK128.out 4
         have hfz46_5 := blk_frozen BK128.out 5
         have hfz46_6 := blk_frozen BK128.out 6
         have hfz46_7 := blk_frozen BK128.out 7
         have hfz46_8 := blk_frozen BK128.out 8
         have hfz46_9 := blk_frozen BK128.out 9
         have hfz46_10 := blk_frozen BK128.out 10
         have hfz46_11 := blk_frozen BK128.out 11
         have hfz46_12 := blk_frozen BK128.out 12
         have hfz46_13 := blk_frozen BK128.out 13
         have hfz46_14 := blk_frozen BK128.out 14
         have hfz46_15 := blk_frozen BK128.out 15
         have hfz46_16 := blk_frozen BK128.out 16
         have hfz46_17 := blk_frozen BK128.out 17
         have hfz46_18 := blk_frozen BK128.out 18
         have hfz46_19 := blk_frozen BK128.out 19
         have hfz46_20 := blk_frozen BK128.out 20
         have hfz46_21 := blk_frozen BK128.out 21
         have hfz46_22 := blk_frozen BK128.out 22
         have hfz46_23 := blk_frozen BK128.out 23
         have hfz46_24 := blk_frozen BK128.out 24
         have hfz46_25 := blk_frozen BK128.out 25
         have hfz46_26 := blk_frozen BK128.out 26
         have hfz46_27 := blk_frozen BK128.out 27
         have hfz46_28 := blk_frozen BK128.out 28
         have hcz47_0 : wc.cell? ⟨gb129, 0, none⟩ = some (.int .i64 a1_0) := (blk_cell BK129.out 0).trans rfl
         have hcz47_1 : wc.cell? ⟨gb129, 1, none⟩ = some (.int .i64 a1_1) := (blk_cell BK129.out 1).trans rfl
         have hcz47_2 : wc.cell? ⟨gb129, 2, none⟩ = some (.int .i64 a1_2) := (blk_cell BK129.out 2).trans rfl
         have hcz47_3 : wc.cell? ⟨gb129, 3, none⟩ = some (.string a1_3) := (blk_cell BK129.out 3).trans rfl
         have hcz47_4 : wc.cell? ⟨gb129, 4, none⟩ = some (.int .i64 a1_4) := (blk_cell BK129.out 4).trans rfl
         have hcz47_5 : wc.cell? ⟨gb129, 5, none⟩ = some (.string a1_5) := (blk_cell BK129.out 5).trans rfl
         have hcz47_6 : wc.cell? ⟨gb129, 6, none⟩ = some (.string a1_6) := (blk_cell BK129.out 6).trans rfl
         have hcz47_7 : wc.cell? ⟨gb129, 7, none⟩ = some (.string a1_7) := (blk_cell BK129.out 7).trans rfl
         have hcz47_8 : wc.cell? ⟨gb129, 8, none⟩ = some (.bool a1_8) := (blk_cell BK129.out 8).trans rfl
         have hcz47_9 : wc.cell? ⟨gb129, 9, none⟩ = some (.string a1_9) := (blk_cell BK129.out 9).trans rfl
         have hcz47_10 : wc.cell? ⟨gb129, 10, none⟩ = some (.int .i64 a1_10) := (blk_cell BK129.out 10).trans rfl
         have hcz47_11 : wc.cell? ⟨gb129, 11, none⟩ = some (.int .i64 a1_11) := (blk_cell BK129.out 11).trans rfl
         have hcz47_12 : wc.cell? ⟨gb129, 12, none⟩ = some (.int .i64 a1_12) := (blk_cell BK129.out 12).trans rfl
         have hcz47_13 : wc.cell? ⟨gb129, 13, none⟩ = some (.int .i64 a1_13) := (blk_cell BK129.out 13).trans rfl
         have hcz47_14 : wc.cell? ⟨gb129, 14, none⟩ = some (.bool a1_14) := (blk_cell BK129.out 14).trans rfl
         have hcz47_15 : wc.cell? ⟨gb129, 15, none⟩ = some (.slice A1_15 l1_15.length c1_15) := (blk_cell BK129.out 15).trans rfl
         have hcz47_16 : wc.cell? ⟨gb129, 16, none⟩ = some (.slice A1_16 l1_16.length c1_16) := (blk_cell BK129.out 16).trans rfl
         have hcz47_17 : wc.cell? ⟨gb129, 17, none⟩ = some (.string a1_17) := (blk_cell BK129.out 17).trans rfl
         have hcz47_18 : wc.cell? ⟨gb129, 18, none⟩ = some (.slice A1_18 l1_18.length c1_18) := (blk_cell BK129.out 18).trans rfl
         have hcz47_19 : wc.cell? ⟨gb129, 19, none⟩ = some (.slice A1_19 l1_19.length c1_19) := (blk_cell BK129.out 19).trans rfl
         have hcz47_20 : wc.cell? ⟨gb129, 20, none⟩ = some (.string a1_20) := (blk_cell BK129.out 20).trans rfl
         have hcz47_21 : wc.cell? ⟨gb129, 21, none⟩ = some (.bool a1_21) := (blk_cell BK129.out 21).trans rfl
         have hcz47_22 : wc.cell? ⟨gb129, 22, none⟩ = some (.string a1_22) := (blk_cell BK129.out 22).trans rfl
         have hcz47_23 : wc.cell? ⟨gb129, 23, none⟩ = some (.bool a1_23) := (blk_cell BK129.out 23).trans rfl
         have hcz47_24 : wc.cell? ⟨gb129, 24, none⟩ = some (.string a1_24) := (blk_cell BK129.out 24).trans rfl
         have hcz47_25 : wc.cell? ⟨gb129, 25, none⟩ = some (.string a1_25) := (blk_cell BK129.out 25).trans rfl
         have hcz47_26 : wc.cell? ⟨gb129, 26, none⟩ = some (.bool a1_26) := (blk_cell BK129.out 26).trans rfl
         have hcz47_27 : wc.cell? ⟨gb129, 27, none⟩ = some (.int .i64 a1_27) := (blk_cell BK129.out 27).trans rfl
         have hcz47_28 : wc.cell? ⟨gb129, 28, none⟩ = some (.slice A1_28 l1_28.length c1_28) := (blk_cell BK129.out 28).trans rfl
         have hfz47_0 := blk_frozen BK129.out 0
         have hfz47_1 := blk_frozen BK129.out 1
         have hfz47_2 := blk_frozen BK129.out 2
         have hfz47_3 := blk_frozen BK129.out 3
         have hfz47_4 := blk_frozen BK129.out 4
         have hfz47_5 := blk_frozen BK129.out 5
         have hfz47_6 := blk_frozen BK129.out 6
         have hfz47_7 := blk_frozen BK129.out 7
         have hfz47_8 := blk_frozen BK129.out 8
         have hfz47_9 := blk_frozen BK129.out 9
         have hfz47_10 := blk_frozen BK129.out 10
         have hfz47_11 := blk_frozen BK129.out 11
         have hfz47_12 := blk_frozen BK129.out 12
         have hfz47_13 := blk_frozen BK129.out 13
         have hfz47_14 := blk_frozen BK129.out 14
         have hfz47_15 := blk_frozen BK129.out 15
         have hfz47_16 := blk_frozen BK129.out 16
         have hfz47_17 := blk_frozen BK129.out 17
         have hfz47_18 := blk_frozen BK129.out 18
         have hfz47_19 := blk_frozen BK129.out 19
         have hfz47_20 := blk_frozen BK129.out 20
         have hfz47_21 := blk_frozen BK129.out 21
         have hfz47_22 := blk_frozen BK129.out 22
         have hfz47_23 := blk_frozen BK129.out 23
         have hfz47_24 := blk_frozen BK129.out 24
         have hfz47_25 := blk_frozen BK129.out 25
         have hfz47_26 := blk_frozen BK129.out 26
         have hfz47_27 := blk_frozen BK129.out 27
         have hfz47_28 := blk_frozen BK129.out 28
         go_wp2
         go_meet
         case rel => exact ⟨_, (true), (by first | rfl | (simp; done) | (simp [*]; done) | (simp [isEmpty_ne_]; done)), H', ⟨by have := HJ2.out; first | omega | exact Nat.le_refl _⟩, ⟨by (with_reducible repeat (first | refine blk_drewN ?_ _ | refine blk_drew ?_ | refine blk_alloc ?_ _)); exact BK128.out⟩, ⟨by (with_reducible repeat (first | refine blk_drewN ?_ _ | refine blk_drew ?_ | refine blk_alloc ?_ _)); exact BK129.out⟩, ⟨by repeat (first | (with_reducible first | exact HB.out | apply below_alloc | apply pw_below_drewN | apply below_drew1 | refine below_set ?_ GE128.out | refine below_set ?_ GE129.out) | exact HB.out)⟩⟩
       ·rw [if_neg c36] at H
        have c36b0 : (a0_24.toList == a1_24.toList) = false := beq_eq_false_iff_ne.mpr c36
        have c36b1 : (a0_24.toList != a1_24.toList) = true := bne_iff_ne.mpr c36
        have H' := Aside0.mk H
        clear H
        have hnb48 := NB128_129.out
        have hnc48 := NB129_128.out
        have hcz49_0 : wc.cell? ⟨gb128, 0, none⟩ = some (.int .i64 a0_0) := (blk_cell BK128.out 0).trans rfl
        have hcz49_1 : wc.cell? ⟨gb128, 1, none⟩ = some (.int .i64 a0_1) := (blk_cell BK128.out 1).trans rfl
        have hcz49_2 : wc.cell? ⟨gb128, 2, none⟩ = some (.int .i64 a0_2) := (blk_cell BK128.out 2).trans rfl
        have hcz49_3 : wc.cell? ⟨gb128, 3, none⟩ = some (.string a0_3) := (blk_cell BK128.out 3).trans rfl
        have hcz49_4 : wc.cell? ⟨gb128, 4, none⟩ = some (.int .i64 a0_4) := (blk_cell BK128.out 4).trans rfl
        have hcz49_5 : wc.cell? ⟨gb128, 5, none⟩ = some (.string a0_5) := (blk_cell BK128.out 5).trans rfl
        have hcz49_6 : wc.cell? ⟨gb128, 6, none⟩ = some (.string a0_6) := (blk_cell BK128.out 6).trans rfl
        have hcz49_7 : wc.cell? ⟨gb128, 7, none⟩ = some (.string a0_7) := (blk_cell BK128.out 7).trans rfl
        have hcz49_8 : wc.cell? ⟨gb128, 8, none⟩ = some (.bool a0_8) := (blk_cell BK128.out 8).trans rfl
        have hcz49_9 : wc.cell? ⟨gb128, 9, none⟩ = some (.string a0_9) := (blk_cell BK128.out 9).trans rfl
        have hcz49_10 : wc.cell? ⟨gb128, 10, none⟩ = some (.int .i64 a0_10) := (blk_cell BK128.out 10).trans rfl
        have hcz49_11 : wc.cell? ⟨gb128, 11, none⟩ = some (.int .i64 a0_11) := (blk_cell BK128.out 11).trans rfl
        have hcz49_12 : wc.cell? ⟨gb128, 12, none⟩ = some (.int .i64 a0_12) := (blk_cell BK128.out 12).trans rfl
        have hcz49_13 : wc.cell? ⟨gb128, 13, none⟩ = some (.int .i64 a0_13) := (blk_cell BK128.out 13).trans rfl
        have hcz49_14 : wc.cell? ⟨gb128, 14, none⟩ = some (.bool a0_14) := (blk_cell BK128.out 14).trans rfl
        have hcz49_15 : wc.cell? ⟨gb128, 15, none⟩ = some (.slice A0_15 l0_15.length c0_15) := (blk_cell BK128.out 15).trans rfl
        have hcz49_16 : wc.cell? ⟨gb128, 16, none⟩ = some (.slice A0_16 l0_16.length c0_16) := (blk_cell BK128.out 16).trans rfl
        have hcz49_17 : wc.cell? ⟨gb128, 17, none⟩ = some (.string a0_17) := (blk_cell BK128.out 17).trans rfl
        have hcz49_18 : wc.cell? ⟨gb128, 18, none⟩ = some (.slice A0_18 l0_18.length c0_18) := (blk_cell BK128.out 18).trans rfl
        have hcz49_19 : wc.cell? ⟨gb128, 19, none⟩ = some (.slice A0_19 l0_19.length c0_19) := (blk_cell BK128.out 19).trans rfl
        have hcz49_20 : wc.cell? ⟨gb128, 20, none⟩ = some (.string a0_20) := (blk_cell BK128.out 20).trans rfl
        have hcz49_21 : wc.cell? ⟨gb128, 21, none⟩ = some (.bool a0_21) := (blk_cell BK128.out 21).trans rfl
        have hcz49_22 : wc.cell? ⟨gb128, 22, none⟩ = some (.string a0_22) := (blk_cell BK128.out 22).trans rfl
        have hcz49_23 : wc.cell? ⟨gb128, 23, none⟩ = some (.bool a0_23) := (blk_cell BK128.out 23).trans rfl
        have hcz49_24 : wc.cell? ⟨gb128, 24, none⟩ = some (.string a0_24) := (blk_cell BK128.out 24).trans rfl
        have hcz49_25 : wc.cell? ⟨gb128, 25, none⟩ = some (.string a0_25) := (blk_cell BK128.out 25).trans rfl
        have hcz49_26 : wc.cell? ⟨gb128, 26, none⟩ = some (.bool a0_26) := (blk_cell BK128.out 26).trans rfl
        have hcz49_27 : wc.cell? ⟨gb128, 27, none⟩ = some (.int .i64 a0_27) := (blk_cell BK128.out 27).trans rfl
        have hcz49_28 : wc.cell? ⟨gb128, 28, none⟩ = some (.slice A0_28 l0_28.length c0_28) := (blk_cell BK128.out 28).trans rfl
        have hfz49_0 := blk_frozen BK128.out 0
        have hfz49_1 := blk_frozen BK128.out 1
        have hfz49_2 := blk_frozen BK128.out 2
        have hfz49_3 := blk_frozen BK128.out 3
        have hfz49_4 := blk_frozen BK128.out 4
        have hfz49_5 := blk_frozen BK128.out 5
        have hfz49_6 := blk_frozen BK128.out 6
        have hfz49_7 := blk_frozen BK128.out 7
        have hfz49_8 := blk_frozen BK128.out 8
        have hfz49_9 := blk_frozen BK128.out 9
        have hfz49_10 := blk_frozen BK128.out 10
        have hfz49_11 := blk_frozen BK128.out 11
        have hfz49_12 := blk_frozen BK128.out 12
        have hfz49_13 := blk_frozen BK128.out 13
        have hfz49_14 := blk_frozen BK128.out 14
        have hfz49_15 := blk_frozen BK128.out 15
        have hfz49_16 := blk_frozen BK128.out 16
        have hfz49_17 := blk_frozen BK128.out 17
        have hfz49_18 := blk_frozen BK128.out 18
        have hfz49_19 := blk_frozen BK128.out 19
        have hfz49_20 := blk_frozen BK128.out 20
        have hfz49_21 := blk_frozen BK128.out 21
        have hfz49_22 := blk_frozen BK128.out 22
        have hfz49_23 := blk_frozen BK128.out 23
        have hfz49_24 := blk_frozen BK128.out 24
        have hfz49_25 := blk_frozen BK128.out 25
        have hfz49_26 := blk_frozen BK128.out 26
        have hfz49_27 := blk_frozen BK128.out 27
        have hfz49_28 := blk_frozen BK128.out 28
        have hcz50_0 : wc.cell? ⟨gb129, 0, none⟩ = some (.int .i64 a1_0) := (blk_cell BK129.out 0).trans rfl
        have hcz50_1 : wc.cell? ⟨gb129, 1, none⟩ = some (.int .i64 a1_1) := (blk_cell BK129.out 1).trans rfl
        have hcz50_2 : wc.cell? ⟨gb129, 2, none⟩ = some (.int .i64 a1_2) := (blk_cell BK129.out 2).trans rfl
        have hcz50_3 : wc.cell? ⟨gb129, 3, none⟩ = some (.string a1_3) := (blk_cell BK129.out 3).trans rfl
        have hcz50_4 : wc.cell? ⟨gb129, 4, none⟩ = some (.int .i64 a1_4) := (blk_cell BK129.out 4).trans rfl
        have hcz50_5 : wc.cell? ⟨gb129, 5, none⟩ = some (.string a1_5) := (blk_cell BK129.out 5).trans rfl
        have hcz50_6 : wc.cell? ⟨gb129, 6, none⟩ = some (.string a1_6) := (blk_cell BK129.out 6).trans rfl
        have hcz50_7 : wc.cell? ⟨gb129, 7, none⟩ = some (.string a1_7) := (blk_cell BK129.out 7).trans rfl
        have hcz50_8 : wc.cell? ⟨gb129, 8, none⟩ = some (.bool a1_8) := (blk_cell BK129.out 8).trans rfl
        have hcz50_9 : wc.cell? ⟨gb129, 9, none⟩ = some (.string a1_9) := (blk_cell BK129.out 9).trans rfl
        have hcz50_10 : wc.cell? ⟨gb129, 10, none⟩ = some (.int .i64 a1_10) := (blk_cell BK129.out 10).trans rfl
        have hcz50_11 : wc.cell? ⟨gb129, 11, none⟩ = some (.int .i64 a1_11) := (blk_cell BK129.out 11).trans rfl
        have hcz50_12 : wc.cell? ⟨gb129, 12, none⟩ = some (.int .i64 a1_12) := (blk_cell BK129.out 12).trans rfl
        have hcz50_13 : wc.cell? ⟨gb129, 13, none⟩ = some (.int .i64 a1_13) := (blk_cell BK129.out 13).trans rfl
        have hcz50_14 : wc.cell? ⟨gb129, 14, none⟩ = some (.bool a1_14) := (blk_cell BK129.out 14).trans rfl
        have hcz50_15 : wc.cell? ⟨gb129, 15, none⟩ = some (.slice A1_15 l1_15.length c1_15) := (blk_cell BK129.out 15).trans rfl
        have hcz50_16 : wc.cell? ⟨gb129, 16, none⟩ = some (.slice A1_16 l1_16.length c1_16) := (blk_cell BK129.out 16).trans rfl
        have hcz50_17 : wc.cell? ⟨gb129, 17, none⟩ = some (.string a1_17) := (blk_cell BK129.out 17).trans rfl
        have hcz50_18 : wc.cell? ⟨gb129, 18, none⟩ = some (.slice A1_18 l1_18.length c1_18) := (blk_cell BK129.out 18).trans rfl
        have hcz50_19 : wc.cell? ⟨gb129, 19, none⟩ = some (.slice A1_19 l1_19.length c1_19) := (blk_cell BK129.out 19).trans rfl
        have hcz50_20 : wc.cell? ⟨gb129, 20, none⟩ = some (.string a1_20) := (blk_cell BK129.out 20).trans rfl
        have hcz50_21 : wc.cell? ⟨gb129, 21, none⟩ = some (.bool a1_21) := (blk_cell BK129.out 21).trans rfl
        have hcz50_22 : wc.cell? ⟨gb129, 22, none⟩ = some (.string a1_22) := (blk_cell BK129.out 22).trans rfl
        have hcz50_23 : wc.cell? ⟨gb129, 23, none⟩ = some (.bool a1_23) := (blk_cell BK129.out 23).trans rfl
        have hcz50_24 : wc.cell? ⟨gb129, 24, none⟩ = some (.string a1_24) := (blk_cell BK129.out 24).trans rfl
        have hcz50_25 : wc.cell? ⟨gb129, 25, none⟩ = some (.string a1_25) := (blk_cell BK129.out 25).trans rfl
        have hcz50_26 : wc.cell? ⟨gb129, 26, none⟩ = some (.bool a1_26) := (blk_cell BK129.out 26).trans rfl
        have hcz50_27 : wc.cell? ⟨gb129, 27, none⟩ = some (.int .i64 a1_27) := (blk_cell BK129.out 27).trans rfl
        have hcz50_28 : wc.cell? ⟨gb129, 28, none⟩ = some (.slice A1_28 l1_28.length c1_28) := (blk_cell BK129.out 28).trans rfl
        have hfz50_0 := blk_frozen BK129.out 0
        have hfz50_1 := blk_frozen BK129.out 1
        have hfz50_2 := blk_frozen BK129.out 2
        have hfz50_3 := blk_frozen BK129.out 3
        have hfz50_4 := blk_frozen BK129.out 4
        have hfz50_5 := blk_frozen BK129.out 5
        have hfz50_6 := blk_frozen BK129.out 6
        have hfz50_7 := blk_frozen BK129.out 7
        have hfz50_8 := blk_frozen BK129.out 8
        have hfz50_9 := blk_frozen BK129.out 9
        have hfz50_10 := blk_frozen BK129.out 10
        have hfz50_11 := blk_frozen BK129.out 11
        have hfz50_12 := blk_frozen BK129.out 12
        have hfz50_13 := blk_frozen BK129.out 13
        have hfz50_14 := blk_frozen BK129.out 14
        have hfz50_15 := blk_frozen BK129.out 15
        have hfz50_16 := blk_frozen BK129.out 16
        have hfz50_17 := blk_frozen BK129.out 17
        have hfz50_18 := blk_frozen BK129.out 18
        have hfz50_19 := blk_frozen BK129.out 19
        have hfz50_20 := blk_frozen BK129.out 20
        have hfz50_21 := blk_frozen BK129.out 21
        have hfz50_22 := blk_frozen BK129.out 22
        have hfz50_23 := blk_frozen BK129.out 23
        have hfz50_24 := blk_frozen BK129.out 24
        have hfz50_25 := blk_frozen BK129.out 25
        have hfz50_26 := blk_frozen BK129.out 26
        have hfz50_27 := blk_frozen BK129.out 27
        have hfz50_28 := blk_frozen BK129.out 28
        go_wp2
        go_meet
        case rel => exact ⟨_, (true), (by first | rfl | (simp; done) | (simp [*]; done) | (simp [isEmpty_ne_]; done)), H', ⟨by have := HJ2.out; first | omega | exact Nat.le_refl _⟩, ⟨by (with_reducible repeat (first | refine blk_drewN ?_ _ | refine blk_drew ?_ | refine blk_alloc ?_ _)); exact BK128.out⟩, ⟨by (with_reducible repeat (first | refine blk_drewN ?_ _ | refine blk_drew ?_ | refine blk_alloc ?_ _)); exact BK129.out⟩, ⟨by repeat (first | (with_reducible first | exact HB.out | apply below_alloc | apply pw_below_drewN | apply below_drew1 | refine below_set ?_ GE128.out | refine below_set ?_ GE129.out) | exact HB.out)⟩⟩
     ·rw [if_neg c31] at H
      have c31b0 : (a0_22.toList == a1_22.toList) = false := beq_eq_false_iff_ne.mpr c31
      have c31b1 : (a0_22.toList != a1_22.toList) = true := bne_iff_ne.mpr c31
      (first | rw [c31b0] | (simp only [i64_w, i32_w]; rw [c31b0]) | skip)
      have H' := Aside0.mk H
      clear H
      have hnb51 := NB128_129.out
      have hnc51 := NB129_128.out
      have hcz52_0 : wc.cell? ⟨gb128, 0, none⟩ = some (.int .i64 a0_0) := (blk_cell BK128.out 0).trans rfl
      have hcz52_1 : wc.cell? ⟨gb128, 1, none⟩ = some (.int .i64 a0_1) := (blk_cell BK128.out 1).trans rfl
      have hcz52_2 : wc.cell? ⟨gb128, 2, none⟩ = some (.int .i64 a0_2) := (blk_cell BK128.out 2).trans rfl
      have hcz52_3 : wc.cell? ⟨gb128, 3, none⟩ = some (.string a0_3) := (blk_cell BK128.out 3).trans rfl
      have hcz52_4 : wc.cell? ⟨gb128, 4, none⟩ = some (.int .i64 a0_4) := (blk_cell BK128.out 4).trans rfl
      have hcz52_5 : wc.cell? ⟨gb128, 5, none⟩ = some (.string a0_5) := (blk_cell BK128.out 5).trans rfl
      have hcz52_6 : wc.cell? ⟨gb128, 6, none⟩ = some (.string a0_6) := (blk_cell BK128.out 6).trans rfl
      have hcz52_7 : wc.cell? ⟨gb128, 7, none⟩ = some (.string a0_7) := (blk_cell BK128.out 7).trans rfl
      have hcz52_8 : wc.cell? ⟨gb128, 8, none⟩ = some (.bool a0_8) := (blk_cell BK128.out 8).trans rfl
      have hcz52_9 : wc.cell? ⟨gb128, 9, none⟩ = some (.string a0_9) := (blk_cell BK128.out 9).trans rfl
      have hcz52_10 : wc.cell? ⟨gb128, 10, none⟩ = some (.int .i64 a0_10) := (blk_cell BK128.out 10).trans rfl
      have hcz52_11 : wc.cell? ⟨gb128, 11, none⟩ = some (.int .i64 a0_11) := (blk_cell BK128.out 11).trans rfl
      have hcz52_12 : wc.cell? ⟨gb128, 12, none⟩ = some (.int .i64 a0_12) := (blk_cell BK128.out 12).trans rfl
      have hcz52_13 : wc.cell? ⟨gb128, 13, none⟩ = some (.int .i64 a0_13) := (blk_cell BK128.out 13).trans rfl
      have hcz52_14 : wc.cell? ⟨gb128, 14, none⟩ = some (.bool a0_14) := (blk_cell BK128.out 14).trans rfl
      have hcz52_15 : wc.cell? ⟨gb128, 15, none⟩ = some (.slice A0_15 l0_15.length c0_15) := (blk_cell BK128.out 15).trans rfl
      have hcz52_16 : wc.cell? ⟨gb128, 16, none⟩ = some (.slice A0_16 l0_16.length c0_16) := (blk_cell BK128.out 16).trans rfl
      have hcz52_17 : wc.cell? ⟨gb128, 17, none⟩ = some (.string a0_17) := (blk_cell BK128.out 17).trans rfl
      have hcz52_18 : wc.cell? ⟨gb128, 18, none⟩ = some (.slice A0_18 l0_18.length c0_18) := (blk_cell BK128.out 18).trans rfl
      have hcz52_19 : wc.cell? ⟨gb128, 19, none⟩ = some (.slice A0_19 l0_19.length c0_19) := (blk_cell BK128.out 19).trans rfl
      have hcz52_20 : wc.cell? ⟨gb128, 20, none⟩ = some (.string a0_20) := (blk_cell BK128.out 20).trans rfl
      have hcz52_21 : wc.cell? ⟨gb128, 21, none⟩ = some (.bool a0_21) := (blk_cell BK128.out 21).trans rfl
      have hcz52_22 : wc.cell? ⟨gb128, 22, none⟩ = some (.string a0_22) := (blk_cell BK128.out 22).trans rfl
      have hcz52_23 : wc.cell? ⟨gb128, 23, none⟩ = some (.bool a0_23) := (blk_cell BK128.out 23).trans rfl
      have hcz52_24 : wc.cell? ⟨gb128, 24, none⟩ = some (.string a0_24) := (blk_cell BK128.out 24).trans rfl
      have hcz52_25 : wc.cell? ⟨gb128, 25, none⟩ = some (.string a0_25) := (blk_cell BK128.out 25).trans rfl
      have hcz52_26 : wc.cell? ⟨gb128, 26, none⟩ = some (.bool a0_26) := (blk_cell BK128.out 26).trans rfl
      have hcz52_27 : wc.cell? ⟨gb128, 27, none⟩ = some (.int .i64 a0_27) := (blk_cell BK128.out 27).trans rfl
      have hcz52_28 : wc.cell? ⟨gb128, 28, none⟩ = some (.slice A0_28 l0_28.length c0_28) := (blk_cell BK128.out 28).trans rfl
      have hfz52_0 := blk_frozen BK128.out 0
      have hfz52_1 := blk_frozen BK128.out 1
      have hfz52_2 := blk_frozen BK128.out 2
      have hfz52_3 := blk_frozen BK128.out 3
      have hfz52_4 := blk_frozen BK128.out 4
      have hfz52_5 := blk_frozen BK128.out 5
      have hfz52_6 := blk_frozen BK128.out 6
      have hfz52_7 := blk_frozen BK128.out 7
      have hfz52_8 := blk_frozen BK128.out 8
      have hfz52_9 := blk_frozen BK128.out 9
      have hfz52_10 := blk_frozen BK128.out 10
      have hfz52_11 := blk_frozen BK128.out 11
      have hfz52_12 := blk_frozen BK128.out 12
      have hfz52_13 := blk_frozen BK128.out 13
      have hfz52_14 := blk_frozen BK128.out 14
      have hfz52_15 := blk_frozen BK128.out 15
      have hfz52_16 := blk_frozen BK128.out 16
      have hfz52_17 := blk_frozen BK128.out 17
      have hfz52_18 := blk_frozen BK128.out 18
      have hfz52_19 := blk_frozen BK128.out 19
      have hfz52_20 := blk_frozen BK128.out 20
      have hfz52_21 := blk_frozen BK128.out 21
      have hfz52_22 := blk_frozen BK128.out 22
      have hfz52_23 := blk_frozen BK128.out 23
      have hfz52_24 := blk_frozen BK128.out 24
      have hfz52_25 := blk_frozen BK128.out 25
      have hfz52_26 := blk_frozen BK128.out 26
      have hfz52_27 := blk_frozen BK128.out 27
      have hfz52_28 := blk_frozen BK128.out 28
      have hcz53_0 : wc.cell? ⟨gb129, 0, none⟩ = some (.int .i64 a1_0) := (blk_cell BK129.out 0).trans rfl
      have hcz53_1 : wc.cell? ⟨gb129, 1, none⟩ = some (.int .i64 a1_1) := (blk_cell BK129.out 1).trans rfl
      have hcz53_2 : wc.cell? ⟨gb129, 2, none⟩ = some (.int .i64 a1_2) := (blk_cell BK129.out 2).trans rfl
      have hcz53_3 : wc.cell? ⟨gb129, 3, none⟩ = some (.string a1_3) := (blk_cell BK129.out 3).trans rfl
      have hcz53_4 : wc.cell? ⟨gb129, 4, none⟩ = some (.int .i64 a1_4) := (blk_cell BK129.out 4).trans rfl
      have hcz53_5 : wc.cell? ⟨gb129, 5, none⟩ = some (.string a1_5) := (blk_cell BK129.out 5).trans rfl
      have hcz53_6 : wc.cell? ⟨gb129, 6, none⟩ = some (.string a1_6) := (blk_cell BK129.out 6).trans rfl
      have hcz53_7 : wc.cell? ⟨gb129, 7, none⟩ = some (.string a1_7) := (blk_cell BK129.out 7).trans rfl
      have hcz53_8 : wc.cell? ⟨gb129, 8, none⟩ = some (.bool a1_8) := (blk_cell BK129.out 8).trans rfl
      have hcz53_9 : wc.cell? ⟨gb129, 9, none⟩ = some (.string a1_9) := (blk_cell BK129.out 9).trans rfl
      have hcz53_10 : wc.cell? ⟨gb129, 10, none⟩ = some (.int .i64 a1_10) := (blk_cell BK129.out 10).trans rfl
      have hcz53_11 : wc.cell? ⟨gb129, 11, none⟩ = some (.int .i64 a1_11) := (blk_cell BK129.out 11).trans rfl
      have hcz53_12 : wc.cell? ⟨gb129, 12, none⟩ = some (.int .i64 a1_12) := (blk_cell BK129.out 12).trans rfl
      have hcz53_13 : wc.cell? ⟨gb129, 13, none⟩ = some (.int .i64 a1_13) := (blk_cell BK129.out 13).trans rfl
      have hcz53_14 : wc.cell? ⟨gb129, 14, none⟩ = some (.bool a1_14) := (blk_cell BK129.out 14).trans rfl
      have hcz53_15 : wc.cell? ⟨gb129, 15, none⟩ = some (.slice A1_15 l1_15.length c1_15) := (blk_cell BK129.out 15).trans rfl
      have hcz53_16 : wc.cell? ⟨gb129, 16, none⟩ = some (.slice A1_16 l1_16.length c1_16) := (blk_cell BK129.out 16).trans rfl
      have hcz53_17 : wc.cell? ⟨gb129, 17, none⟩ = some (.string a1_17) := (blk_cell BK129.out 17).trans rfl
      have hcz53_18 : wc.cell? ⟨gb129, 18, none⟩ = some (.slice A1_18 l1_18.length c1_18) := (blk_cell BK129.out 18).trans rfl
      have hcz53_19 : wc.cell? ⟨gb129, 19, none⟩ = some (.slice A1_19 l1_19.length c1_19) := (blk_cell BK129.out 19).trans rfl
      have hcz53_20 : wc.cell? ⟨gb129, 20, none⟩ = some (.string a1_20) := (blk_cell BK129.out 20).trans rfl
      have hcz53_21 : wc.cell? ⟨gb129, 21, none⟩ = some (.bool a1_21) := (blk_cell BK129.out 21).trans rfl
      have hcz53_22 : wc.cell? ⟨gb129, 22, none⟩ = some (.string a1_22) := (blk_cell BK129.out 22).trans rfl
      have hcz53_23 : wc.cell? ⟨gb129, 23, none⟩ = some (.bool a1_23) := (blk_cell BK129.out 23).trans rfl
      have hcz53_24 : wc.cell? ⟨gb129, 24, none⟩ = some (.string a1_24) := (blk_cell BK129.out 24).trans rfl
      have hcz53_25 : wc.cell? ⟨gb129, 25, none⟩ = some (.string a1_25) := (blk_cell BK129.out 25).trans rfl
      have hcz53_26 : wc.cell? ⟨gb129, 26, none⟩ = some (.bool a1_26) := (blk_cell BK129.out 26).trans rfl
      have hcz53_27 : wc.cell? ⟨gb129, 27, none⟩ = some (.int .i64 a1_27) := (blk_cell BK129.out 27).trans rfl
      have hcz53_28 : wc.cell? ⟨gb129, 28, none⟩ = some (.slice A1_28 l1_28.length c1_28) := (blk_cell BK129.out 28).trans rfl
      have hfz53_0 := blk_frozen BK129.out 0
      have hfz53_1 := blk_frozen BK129.out 1
      have hfz53_2 := blk_frozen BK129.out 2
      have hfz53_3 := blk_frozen BK129.out 3
      have hfz53_4 := blk_frozen BK129.out 4
      have hfz53_5 := blk_frozen BK129.out 5
      have hfz53_6 := blk_frozen BK129.out 6
      have hfz53_7 := blk_frozen BK129.out 7
      have hfz53_8 := blk_frozen BK129.out 8
      have hfz53_9 := blk_frozen BK129.out 9
      have hfz53_10 := blk_frozen BK129.out 10
      have hfz53_11 := blk_frozen BK129.out 11
      have hfz53_12 := blk_frozen BK129.out 12
      have hfz53_13 := blk_frozen BK129.out 13
      have hfz53_14 := blk_frozen BK129.out 14
      have hfz53_15 := blk_frozen BK129.out 15
      have hfz53_16 := blk_frozen BK129.out 16
      have hfz53_17 := blk_frozen BK129.out 17
      have hfz53_18 := blk_frozen BK129.out 18
      have hfz53_19 := blk_frozen BK129.out 19
      have hfz53_20 := blk_frozen BK129.out 20
      have hfz53_21 := blk_frozen BK129.out 21
      have hfz53_22 := blk_frozen BK129.out 22
      have hfz53_23 := blk_frozen BK129.out 23
      have hfz53_24 := blk_frozen BK129.out 24
      have hfz53_25 := blk_frozen BK129.out 25
      have hfz53_26 := blk_frozen BK129.out 26
      have hfz53_27 := blk_frozen BK129.out 27
      have hfz53_28 := blk_frozen BK129.out 28
      go_wp2
      go_meet
      case rel => exact ⟨_, (true), (by first | rfl | (simp; done) | (simp [*]; done) | (simp [isEmpty_ne_]; done)), H', ⟨by have := HJ2.out; first | omega | exact Nat.le_refl _⟩, ⟨by (with_reducible repeat (first | refine blk_drewN ?_ _ | refine blk_drew ?_ | refine blk_alloc ?_ _)); exact BK128.out⟩, ⟨by (with_reducible repeat (first | refine blk_drewN ?_ _ | refine blk_drew ?_ | refine blk_alloc ?_ _)); exact BK129.out⟩, ⟨by repeat (first | (with_reducible first | exact HB.out | apply below_alloc | apply pw_below_drewN | apply below_drew1 | refine below_set ?_ GE128.out | refine below_set ?_ GE129.out) | exact HB.out)⟩⟩
    case rest =>
     clear HC30
     try clear c1
     try clear p2
     try clear c3
     try clear c4
     try clear c5
     try clear c31
     try clear c31b0
     try clear c31b1
     try clear c36
     try clear c36b0
     try clear c36b1
     try clear c37
     try clear c37b0
     try clear c37b1
     try clear c38
     try clear c38b0
     try clear c38b1
     try clear c38b2
     try clear c42
     try clear c45
     try clear c48
     try clear c51
     try clear hcz40_28
     try clear hcz41_0 hcz41_1
     try clear hcz41_10
     try clear hcz41_11
     try clear hcz41_12
     try clear hcz41_13
     try clear hcz41_14
     try clear hcz41_15
     try clear hcz41_16
     try clear hcz41_17
     try clear hcz41_18
     try clear hcz41_19
     try clear hcz41_2
     try clear hcz41_20
     try clear hcz41_21
     try clear hcz41_22
     try clear hcz41_23
     try clear hcz41_24
     try clear hcz41_25
     try clear hcz41_26
     try clear hcz41_27
     try clear hcz41_28
     try clear hcz41_3
     try clear hcz41_4
     try clear hcz41_5
     try clear hcz41_6
     try clear hcz41_7
     try clear hcz41_8
     try clear hcz41_9
     try clear hcz43_0 hcz43_1
     try clear hcz43_10
     try clear hcz43_11
     try clear hcz43_12
     try clear hcz43_13
     try clear hcz43_14
     try clear hcz43_15
     try clear hcz43_16
     try clear hcz43_17
     try clear hcz43_18
     try clear hcz43_19
     try clear hcz43_2
     try clear hcz43_20
     try clear hcz43_21
     try clear hcz43_22
     try clear hcz43_23
     try clear hcz43_24
     try clear hcz43_25
     try clear hcz43_26
     try clear hcz43_27
     try clear hcz43_28
     try clear hcz43_3
     try clear hcz43_4
     try clear hcz43_5
     try clear hcz43_6
     try clear hcz43_7
     try clear hcz43_8
     try clear hcz43_9
     try clear hcz44_0 hcz44_1
     try clear hcz44_10
     try clear hcz44_11
     try clear hcz44_12
     try clear hcz44_13
     try clear hcz44_14
     try clear hcz44_15
     try clear hcz44_16
     try clear hcz44_17
     try clear hcz44_18
     try clear hcz44_19
     try clear hcz44_2
     try clear hcz44_20
     try clear hcz44_21
     try clear hcz44_22
     try clear hcz44_23
     try clear hcz44_24
     try clear hcz44_25
     try clear hcz44_26
     try clear hcz44_27
     try clear hcz44_28
     try clear hcz44_3
     try clear hcz44_4
     try clear hcz44_5
     try clear hcz44_6
     try clear hcz44_7
     try clear hcz44_8
     try clear hcz44_9
     try clear hcz46_0 hcz46_1
     try clear hcz46_10
     try clear hcz46_11
     try clear hcz46_12
     try clear hcz46_13
     try clear hcz46_14
     try clear hcz46_15
     try clear hcz46_16
     try clear hcz46_17
     try clear hcz46_18
     try clear hcz46_19
     try clear hcz46_2
     try clear hcz46_20
     try clear hcz46_21
     try clear hcz46_22
     try clear hcz46_23
     try clear hcz46_24
     try clear hcz46_25
     try clear hcz46_26
     try clear hcz46_27
     try clear hcz46_28
     try clear hcz46_3
     try clear hcz46_4
     try clear hcz46_5
     try clear hcz46_6
     try clear hcz46_7
     try clear hcz46_8
     try clear hcz46_9
     try clear hcz47_0 hcz47_1
     try clear hcz47_10
     try clear hcz47_11
     try clear hcz47_12
     try clear hcz47_13
     try clear hcz47_14
     try clear hcz47_15
     try clear hcz47_16
     try clear hcz47_17
     try clear hcz47_18
     try clear hcz47_19
     try clear hcz47_2
     try clear hcz47_20
     try clear hcz47_21
     try clear hcz47_22
     try clear hcz47_23
     try clear hcz47_24
     try clear hcz47_25
     try clear hcz47_26
     try clear hcz47_27
     try clear hcz47_28
     try clear hcz47_3
     try clear hcz47_4
     try clear hcz47_5
     try clear hcz47_6
     try clear hcz47_7
     try clear hcz47_8
     try clear hcz47_9
     try clear hcz49_0 hcz49_1
     try clear hcz49_10
     try clear hcz49_11
     try clear hcz49_12
     try clear hcz49_13
     try clear hcz49_14
     try clear hcz49_15
     try clear hcz49_16
     try clear hcz49_17
     try clear hcz49_18
     try clear hcz49_19
     try clear hcz49_2
     try clear hcz49_20
     try clear hcz49_21
     try clear hcz49_22
     try clear hcz49_23
     try clear hcz49_24
     try clear hcz49_25
     try clear hcz49_26
     try clear hcz49_27
     try clear hcz49_28
     try clear hcz49_3
     try clear hcz49_4
     try clear hcz49_5
     try clear hcz49_6
     try clear hcz49_7
     try clear hcz49_8
     try clear hcz49_9
     try clear hcz50_0 hcz50_1
     try clear hcz50_10
     try clear hcz50_11
     try clear hcz50_12
     try clear hcz50_13
     try clear hcz50_14
     try clear hcz50_15
     try clear hcz50_16
     try clear hcz50_17
     try clear hcz50_18
     try clear hcz50_19
     try clear hcz50_2
     try clear hcz50_20
     try clear hcz50_21
     try clear hcz50_22
     try clear hcz50_23
     try clear hcz50_24
     try clear hcz50_25
     try clear hcz50_26
     try clear hcz50_27
     try clear hcz50_28
     try clear hcz50_3
     try clear hcz50_4
     try clear hcz50_5
     try clear hcz50_6
     try clear hcz50_7
     try clear hcz50_8
     try clear hcz50_9
     try clear hcz52_0 hcz52_1
     try clear hcz52_10
     try clear hcz52_11
     try clear hcz52_12
     try clear hcz52_13
     try clear hcz52_14
     try clear hcz52_15
     try clear hcz52_16
     try clear hcz52_17
     try clear hcz52_18
     try clear hcz52_19
     try clear hcz52_2
     try clear hcz52_20
     try clear hcz52_21
     try clear hcz52_22
     try clear hcz52_23
     try clear hcz52_24
     try clear hcz52_25
     try clear hcz52_26
     try clear hcz52_27
     try clear hcz52_28
     try clear hcz52_3
     try clear hcz52_4
     try clear hcz52_5
     try clear hcz52_6
     try clear hcz52_7
     try clear hcz52_8
     try clear hcz52_9
     try clear hcz53_0 hcz53_1
     try clear hcz53_10
     try clear hcz53_11
     try clear hcz53_12
     try clear hcz53_13
     try clear hcz53_14
     try clear hcz53_15
     try clear hcz53_16
     try clear hcz53_17
     try clear hcz53_18
     try clear hcz53_19
     try clear hcz53_2
     try clear hcz53_20
     try clear hcz53_21
     try clear hcz53_22
     try clear hcz53_23
     try clear hcz53_24
     try clear hcz53_25
     try clear hcz53_26
     try clear hcz53_27
     try clear hcz53_28
     try clear hcz53_3
     try clear hcz53_4
     try clear hcz53_5
     try clear hcz53_6
     try clear hcz53_7
     try clear hcz53_8
     try clear hcz53_9
     try clear hfz40_0 hfz40_1
     try clear hfz40_10
     try clear hfz40_11
     try clear hfz40_12
     try clear hfz40_13
     try clear hfz40_14
     try clear hfz40_15
     try clear hfz40_16
     try clear hfz40_17
     try clear hfz40_18
     try clear hfz40_19
     try clear hfz40_2
     try clear hfz40_20
     try clear hfz40_21
     try clear hfz40_22
     try clear hfz40_23
     try clear hfz40_24
     try clear hfz40_25
     try clear hfz40_26
     try clear hfz40_27
     try clear hfz40_28
     try clear hfz40_3
     try clear hfz40_4
     try clear hfz40_5
     try clear hfz40_6
     try clear hfz40_7
     try clear hfz40_8
     try clear hfz40_9
     try clear hfz41_0 hfz41_1
     try clear hfz41_10
     try clear hfz41_11
     try clear hfz41_12
     try clear hfz41_13
     try clear hfz41_14
     try clear hfz41_15
     try clear hfz41_16
     try clear hfz41_17
     try clear hfz41_18
     try clear hfz41_19
     try clear hfz41_2
     try clear hfz41_20
     try clear hfz41_21
     try clear hfz41_22
     try clear hfz41_23
     try clear hfz41_24
     try clear hfz41_25
     try clear hfz41_26
     try clear hfz41_27
     try clear hfz41_28
     try clear hfz41_3
     try clear hfz41_4
     try clear hfz41_5
     try clear hfz41_6
     try clear hfz41_7
     try clear hfz41_8
     try clear hfz41_9
     try clear hfz43_0 hfz43_1
     try clear hfz43_10
     try clear hfz43_11
     try clear hfz43_12
     try clear hfz43_13
     try clear hfz43_14
     try clear hfz43_15
     try clear hfz43_16
     try clear hfz43_17
     try clear hfz43_18
     try clear hfz43_19
     try clear hfz43_2
     try clear hfz43_20
     try clear hfz43_21
     try clear hfz43_22
     try clear hfz43_23
     try clear hfz43_24
     try clear hfz43_25
     try clear hfz43_26
     try clear hfz43_27
     try clear hfz43_28
     try clear hfz43_3
     try clear hfz43_4
     try clear hfz43_5
     try clear hfz43_6
     try clear hfz43_7
     try clear hfz43_8
     try clear hfz43_9
     try clear hfz44_0 hfz44_1
     try clear hfz44_10
     try clear hfz44_11
     try clear hfz44_12
     try clear hfz44_13
     try clear hfz44_14
     try clear hfz44_15
     try clear hfz44_16
     try clear hfz44_17
     try clear hfz44_18
     try clear hfz44_19
     try clear hfz44_2
     try clear hfz44_20
     try clear hfz44_21
     try clear hfz44_22
     try clear hfz44_23
     try clear hfz44_24
     try clear hfz44_25
     try clear hfz44_26
     try clear hfz44_27
     try clear hfz44_28
     try clear hfz44_3
     try clear hfz44_4
     try clear hfz44_5
     try clear hfz44_6
     try clear hfz44_7
     try clear hfz44_8
     try clear hfz44_9
     try clear hfz46_0 hfz46_1
     try clear hfz46_10
     try clear hfz46_11
     try clear hfz46_12
     try clear hfz46_13
     try clear hfz46_14
     try clear hfz46_15
     try clear hfz46_16
     try clear hfz46_17
     try clear hfz46_18
     try clear hfz46_19
     try clear hfz46_2
     try clear hfz46_20
     try clear hfz46_21
     try clear hfz46_22
     try clear hfz46_23
     try clear hfz46_24
     try clear hfz46_25
     try clear hfz46_26
     try clear hfz46_27
     try clear hfz46_28
     try clear hfz46_3
     try clear hfz46_4
     try clear hfz46_5
     try clear hfz46_6
     try clear hfz46_7
     try clear hfz46_8
     try clear hfz46_9
     try clear hfz47_0 hfz47_1
     try clear hfz47_10
     try clear hfz47_11
     try clear hfz47_12
     try clear hfz47_13
     try clear hfz47_14
     try clear hfz47_15
     try clear hfz47_16
     try clear hfz47_17
     try clear hfz47_18
     try clear hfz47_19
     try clear hfz47_2
     try clear hfz47_20
     try clear hfz47_21
     try clear hfz47_22
     try clear hfz47_23
     try clear hfz47_24
     try clear hfz47_25
     try clear hfz47_26
     try clear hfz47_27
     try clear hfz47_28
     try clear hfz47_3
     try clear hfz47_4
     try clear hfz47_5
     try clear hfz47_6
     try clear hfz47_7
     try clear hfz47_8
     try clear hfz47_9
     try clear hfz49_0 hfz49_1
     try clear hfz49_10
     try clear hfz49_11
     try clear hfz49_12
     try clear hfz49_13
     try clear hfz49_14
     try clear hfz49_15
     try clear hfz49_16
     try clear hfz49_17
     try clear hfz49_18
     try clear hfz49_19
     try clear hfz49_2
     try clear hfz49_20
     try clear hfz49_21
     try clear hfz49_22
     try clear hfz49_23
     try clear hfz49_24
     try clear hfz49_25
     try clear hfz49_26
     try clear hfz49_27
     try clear hfz49_28
     try clear hfz49_3
     try clear hfz49_4
     try clear hfz49_5
     try clear hfz49_6
     try clear hfz49_7
     try clear hfz49_8
     try clear hfz49_9
     try clear hfz50_0 hfz50_1
     try clear hfz50_10
     try clear hfz50_11
     try clear hfz50_12
     try clear hfz50_13
     try clear hfz50_14
     try clear hfz50_15
     try clear hfz50_16
     try clear hfz50_17
     try clear hfz50_18
     try clear hfz50_19
     try clear hfz50_2
     try clear hfz50_20
     try clear hfz50_21
     try clear hfz50_22
     try clear hfz50_23
     try clear hfz50_24
     try clear hfz50_25
     try clear hfz50_26
     try clear hfz50_27
     try clear hfz50_28
     try clear hfz50_3
     try clear hfz50_4
     try clear hfz50_5
     try clear hfz50_6
     try clear hfz50_7
     try clear hfz50_8
     try clear hfz50_9
     try clear hfz52_0 hfz52_1
     try clear hfz52_10
     try clear hfz52_11
     try clear hfz52_12
     try clear hfz52_13
     try clear hfz52_14
     try clear hfz52_15
     try clear hfz52_16
     try clear hfz52_17
     try clear hfz52_18
     try clear hfz52_19
     try clear hfz52_2
     try clear hfz52_20
     try clear hfz52_21
     try clear hfz52_22
     try clear hfz52_23
     try clear hfz52_24
     try clear hfz52_25
     try clear hfz52_26
     try clear hfz52_27
     try clear hfz52_28
     try clear hfz52_3
     try clear hfz52_4
     try clear hfz52_5
     try clear hfz52_6
     try clear hfz52_7
     try clear hfz52_8
     try clear hfz52_9
     try clear hfz53_0 hfz53_1
     try clear hfz53_10
     try clear hfz53_11
     try clear hfz53_12
     try clear hfz53_13
     try clear hfz53_14
     try clear hfz53_15
     try clear hfz53_16
     try clear hfz53_17
     try clear hfz53_18
     try clear hfz53_19
     try clear hfz53_2
     try clear hfz53_20
     try clear hfz53_21
     try clear hfz53_22
     try clear hfz53_23
     try clear hfz53_24
     try clear hfz53_25
     try clear hfz53_26
     try clear hfz53_27
     try clear hfz53_28
     try clear hfz53_3
     try clear hfz53_4
     try clear hfz53_5
     try clear hfz53_6
     try clear hfz53_7
     try clear hfz53_8
     try clear hfz53_9
     obtain ⟨kq, x84_29, rfl, HA, HJ29, BK128, BK129, HB⟩ := hcut
     cases kq with
     | zero => exact absurd HA.out (by simp [rosterref13_SameRequest.j1])
     | succ kj29 =>
      have H := HA.out
      clear HA
      simp only [rosterref13_SameRequest.j1] at H
      by_cases c54 : x84_29 = true
      ·subst c54
       have H1 : (some false) = some r := by rw [if_pos rfl] at H; exact H
       clear H
       have H := H1
       clear H1
       obtain rfl := Option.some.inj H
       go_wp2
       go_ret
       exact ⟨by first | rfl | (simp [isEmpty_ne_]; done) | (simp [*, errW_none, errW_some] <;> rfl), by repeat (first | (with_reducible first | exact HB.out | apply below_alloc | apply pw_below_drewN | apply below_drew1 | refine below_set ?_ GE128.out | refine below_set ?_ GE129.out) | exact HB.out)⟩
      ·replace c54 := Bool.eq_false_iff.mpr c54
       subst c54
       have H1 : ((rosterref13_sameSearch.f kj29 a0_9 a0_10 a0_11 a0_12 a0_13 a0_14 l0_15 l0_16 a1_9 a1_10 a1_11 a1_12 a1_13 a1_14 l1_15 l1_16).bind fun t130 => (if t130 = true then ((rosterref13_sameChanges.f kj29 l0_18 l1_18).bind fun t131 => (if t131 = true then ((rosterref13_sameAttrs.f kj29 l0_19 l1_19).bind fun t132 => (if t132 = true then ((rosterref13_sameControls.f kj29 l0_28 l1_28).bind fun t133 => (some t133)) else (some false))) else (some false))) else (some false))) = some r := by rw [if_neg (show ¬ (false = true) by decide)] at H; exact H
       clear H
       have H := H1
       clear H1
       replace H := Option.bind_eq_some_iff.mp H
       obtain ⟨t130, A550, H⟩ := H
       replace H : (if t130 = true then ((rosterref13_sameChanges.f kj29 l0_18 l1_18).bind fun t131 => (if t131 = true then ((rosterref13_sameAttrs.f kj29 l0_19 l1_19).bind fun t132 => (if t132 = true then ((rosterref13_sameControls.f kj29 l0_28 l1_28).bind fun t133 => (some t133)) else (some false))) else (some false))) else (some false)) = some r := H
       have A55 := Aside0.mk A550
       clear A550
       by_cases c56 : t130 = true
       ·subst c56
        have H1 : ((rosterref13_sameChanges.f kj29 l0_18 l1_18).bind fun t131 => (if t131 = true then ((rosterref13_sameAttrs.f kj29 l0_19 l1_19).bind fun t132 => (if t132 = true then ((rosterref13_sameControls.f kj29 l0_28 l1_28).bind fun t133 => (some t133)) else (some false))) else (some false))) = some r := by rw [if_pos rfl] at H; exact H
        clear H
        have H := H1
        clear H1
        replace H := Option.bind_eq_some_iff.mp H
        obtain ⟨t131, A570, H⟩ := H
        replace H : (if t131 = true then ((rosterref13_sameAttrs.f kj29 l0_19 l1_19).bind fun t132 => (if t132 = true then ((rosterref13_sameControls.f kj29 l0_28 l1_28).bind fun t133 => (some t133)) else (some false))) else (some false)) = some r := H
        have A57 := Aside0.mk A570
        clear A570
        by_cases c58 : t131 = true
        ·subst c58
         have H1 : ((rosterref13_sameAttrs.f kj29 l0_19 l1_19).bind fun t132 => (if t132 = true then ((rosterref13_sameControls.f kj29 l0_28 l1_28).bind fun t133 => (some t133)) else (some false))) = some r := by rw [if_pos rfl] at H; exact H
         clear H
         have H := H1
         clear H1
         replace H := Option.bind_eq_some_iff.mp H
         obtain ⟨t132, A590, H⟩ := H
         replace H : (if t132 = true then ((rosterref13_sameControls.f kj29 l0_28 l1_28).bind fun t133 => (some t133)) else (some false)) = some r := H
         have A59 := Aside0.mk A590
         clear A590
         by_cases c60 : t132 = true
         ·subst c60
          have H1 : ((rosterref13_sameControls.f kj29 l0_28 l1_28).bind fun t133 => (some t133)) = some r := by rw [if_pos rfl] at H; exact H
          clear H
          have H := H1
          clear H1
          replace H := Option.bind_eq_some_iff.mp H
          obtain ⟨t133, A610, H⟩ := H
          replace H : (some t133) = some r := H
          have A61 := Aside0.mk A610
          clear A610
          obtain rfl := Option.some.inj H
          have hnb62 := NB128_129.out
          have hnc62 := NB129_128.out
          have hcz63_0 : wc.cell? ⟨gb128, 0, none⟩ = some (.int .i64 a0_0) := (blk_cell BK128.out 0).trans rfl
          have hcz63_1 : wc.cell? ⟨gb128, 1, none⟩ = some (.int .i64 a0_1) := (blk_cell BK128.out 1).trans rfl
          have hcz63_2 : wc.cell? ⟨gb128, 2, none⟩ = some (.int .i64 a0_2) := (blk_cell BK128.out 2).trans rfl
          have hcz63_3 : wc.cell? ⟨gb128, 3, none⟩ = some (.string a0_3) := (blk_cell BK128.out 3).trans rfl
          have hcz63_4 : wc.cell? ⟨gb128, 4, none⟩ = some (.int .i64 a0_4) := (blk_cell BK128.out 4).trans rfl
          have hcz63_5 : wc.cell? ⟨gb128, 5, none⟩ = some (.string a0_5) := (blk_cell BK128.out 5).trans rfl
          have hcz63_6 : wc.cell? ⟨gb128, 6, none⟩ = some (.string a0_6) := (blk_cell BK128.out 6).trans rfl
          have hcz63_7 : wc.cell? ⟨gb128, 7, none⟩ = some (.string a0_7) := (blk_cell BK128.out 7).trans rfl
          have hcz63_8 : wc.cell? ⟨gb128, 8, none⟩ = some (.bool a0_8) := (blk_cell BK128.out 8).trans rfl
          have hcz63_9 : wc.cell? ⟨gb128, 9, none⟩ = some (.string a0_9) := (blk_cell BK128.out 9).trans rfl
          have hcz63_10 : wc.cell? ⟨gb128, 10, none⟩ = some (.int .i64 a0_10) := (blk_cell BK128.out 10).trans rfl
          have hcz63_11 : wc.cell? ⟨gb128, 11, none⟩ = some (.int .i64 a0_11) := (blk_cell BK128.out 11).trans rfl
          have hcz63_12 : wc.cell? ⟨gb128, 12, none⟩ = some (.int .i64 a0_12) := (blk_cell BK128.out 12).trans rfl
          have hcz63_13 : wc.cell? ⟨gb128, 13, none⟩ = some (.int .i64 a0_13) := (blk_cell BK128.out 13).trans rfl
          have hcz63_14 : wc.cell? ⟨gb128, 14, none⟩ = some (.bool a0_14) := (blk_cell BK128.out 14).trans rfl
          have hcz63_15 : wc.cell? ⟨gb128, 15, none⟩ = some (.slice A0_15 l0_15.length c0_15) := (blk_cell BK128.out 15).trans rfl
          have hcz63_16 : wc.cell? ⟨gb128, 16, none⟩ = some (.slice A0_16 l0_16.length c0_16) := (blk_cell BK128.out 16).trans rfl
          have hcz63_17 : wc.cell? ⟨gb128, 17, none⟩ = some (.string a0_17) := (blk_cell BK128.out 17).trans rfl
          have hcz63_18 : wc.cell? ⟨gb128, 18, none⟩ = some (.slice A0_18 l0_18.length c0_18) := (blk_cell BK128.out 18).trans rfl
          have hcz63_19 : wc.cell? ⟨gb128, 19, none⟩ = some (.slice A0_19 l0_19.length c0_19) := (blk_cell BK128.out 19).trans rfl
          have hcz63_20 : wc.cell? ⟨gb128, 20, none⟩ = some (.string a0_20) := (blk_cell BK128.out 20).trans rfl
          have hcz63_21 : wc.cell? ⟨gb128, 21, none⟩ = some (.bool a0_21) := (blk_cell BK128.out 21).trans rfl
          have hcz63_22 : wc.cell? ⟨gb128, 22, none⟩ = some (.string a0_22) := (blk_cell BK128.out 22).trans rfl
          have hcz63_23 : wc.cell? ⟨gb128, 23, none⟩ = some (.bool a0_23) := (blk_cell BK128.out 23).trans rfl
          have hcz63_24 : wc.cell? ⟨gb128, 24, none⟩ = some (.string a0_24) := (blk_cell BK128.out 24).trans rfl
          have hcz63_25 : wc.cell? ⟨gb128, 25, none⟩ = some (.string a0_25) := (blk_cell BK128.out 25).trans rfl
          have hcz63_26 : wc.cell? ⟨gb128, 26, none⟩ = some (.bool a0_26) := (blk_cell BK128.out 26).trans rfl
          have hcz63_27 : wc.cell? ⟨gb128, 27, none⟩ = some (.int .i64 a0_27) := (blk_cell BK128.out 27).trans rfl
          have hcz63_28 : wc.cell? ⟨gb128, 28, none⟩ = some (.slice A0_28 l0_28.length c0_28) := (blk_cell BK128.out 28).trans rfl
          have hfz63_0 := blk_frozen BK128.out 0
          have hfz63_1 := blk_frozen BK128.out 1
          have hfz63_2 := blk_frozen BK128.out 2
          have hfz63_3 := blk_frozen BK128.out 3
          have hfz63_4 := blk_frozen BK128.out 4
          have hfz63_5 := blk_frozen BK128.out 5
          have hfz63_6 := blk_frozen BK128.out 6
          have hfz63_7 := blk_frozen BK128.out 7
          have hfz63_8 := blk_frozen BK128.out 8
          have hfz63_9 := blk_frozen BK128.out 9
          have hfz63_10 := blk_frozen BK128.out 10
          have hfz63_11 := blk_frozen BK128.out 11
          have hfz63_12 := blk_frozen BK128.out 12
          have hfz63_13 := blk_frozen BK128.out 13
          have hfz63_14 := blk_frozen BK128.out 14
          have hfz63_15 := blk_frozen BK128.out 15
          have hfz63_16 := blk_frozen BK128.out 16
          have hfz63_17 := blk_frozen BK128.out 17
          have hfz63_18 := blk_frozen BK128.out 18
          have hfz63_19 := blk_frozen BK128.out 19
          have hfz63_20 := blk_frozen BK128.out 20
          have hfz63_21 := blk_frozen BK128.out 21
          have hfz63_22 := blk_frozen BK128.out 22
          have hfz63_23 := blk_frozen BK128.out 23
          have hfz63_24 := blk_frozen BK128.out 24
          have hfz63_25 := blk_frozen BK128.out 25
          have hfz63_26 := blk_frozen BK128.out 26
          have hfz63_27 := blk_frozen BK128.out 27
          have hfz63_28 := blk_frozen BK128.out 28
          have hcz64_0 : wc.cell? ⟨gb129, 0, none⟩ = some (.int .i64 a1_0) := (blk_cell BK129.out 0).trans rfl
          have hcz64_1 : wc.cell? ⟨gb129, 1, none⟩ = some (.int .i64 a1_1) := (blk_cell BK129.out 1).trans rfl
          have hcz64_2 : wc.cell? ⟨gb129, 2, none⟩ = some (.int .i64 a1_2) := (blk_cell BK129.out 2).trans rfl
          have hcz64_3 : wc.cell? ⟨gb129, 3, none⟩ = some (.string a1_3) := (blk_cell BK129.out 3).trans rfl
          have hcz64_4 : wc.cell? ⟨gb129, 4, none⟩ = some (.int .i64 a1_4) := (blk_cell BK129.out 4).trans rfl
          have hcz64_5 : wc.cell? ⟨gb129, 5, none⟩ = some (.string a1_5) := (blk_cell BK129.out 5).trans rfl
          have hcz64_6 : wc.cell? ⟨gb129, 6, none⟩ = some (.string a1_6) := (blk_cell BK129.out 6).trans rfl
          have hcz64_7 : wc.cell? ⟨gb129, 7, none⟩ = some (.string a1_7) := (blk_cell BK129.out 7).trans rfl
          have hcz64_8 : wc.cell? ⟨gb129, 8, none⟩ = some (.bool a1_8) := (blk_cell BK129.out 8).trans rfl
          have hcz64_9 : wc.cell? ⟨gb129, 9, none⟩ = some (.string a1_9) := (blk_cell BK129.out 9).trans rfl
          have hcz64_10 : wc.cell? ⟨gb129, 10, none⟩ = some (.int .i64 a1_10) := (blk_cell BK129.out 10).trans rfl
          have hcz64_11 : wc.cell? ⟨gb129, 11, none⟩ = some (.int .i64 a1_11) := (blk_cell BK129.out 11).trans rfl
          have hcz64_12 : wc.cell? ⟨gb129, 12, none⟩ = some (.int .i64 a1_12) := (blk_cell BK129.out 12).trans rfl
          have hcz64_13 : wc.cell? ⟨gb129, 13, none⟩ = some (.int .i64 a1_13) := (blk_cell BK129.out 13).trans rfl
          have hcz64_14 : wc.cell? ⟨gb129, 14, none⟩ = some (.bool a1_14) := (blk_cell BK129.out 14).trans rfl
          have hcz64_15 : wc.cell? ⟨gb129, 15, none⟩ = some (.slice A1_15 l1_15.length c1_15) := (blk_cell BK129.out 15).trans rfl
          have hcz64_16 : wc.cell? ⟨gb129, 16, none⟩ = some (.slice A1_16 l1_16.length c1_16) := (blk_cell BK129.out 16).trans rfl
          have hcz64_17 : wc.cell? ⟨gb129, 17, none⟩ = some (.string a1_17) := (blk_cell BK129.out 17).trans rfl
          have hcz64_18 : wc.cell? ⟨gb129, 18, none⟩ = some (.slice A1_18 l1_18.length c1_18) := (blk_cell BK129.out 18).trans rfl
          have hcz64_19 : wc.cell? ⟨gb129, 19, none⟩ = some (.slice A1_19 l1_19.length c1_19) := (blk_cell BK129.out 19).trans rfl
          have hcz64_20 : wc.cell? ⟨gb129, 20, none⟩ = some (.string a1_20) := (blk_cell BK129.out 20).trans rfl
          have hcz64_21 : wc.cell? ⟨gb129, 21, none⟩ = some (.bool a1_21) := (blk_cell BK129.out 21).trans rfl
          have hcz64_22 : wc.cell? ⟨gb129, 22, none⟩ = some (.string a1_22) := (blk_cell BK129.out 22).trans rfl
          have hcz64_23 : wc.cell? ⟨gb129, 23, none⟩ = some (.bool a1_23) := (blk_cell BK129.out 23).trans rfl
          have hcz64_24 : wc.cell? ⟨gb129, 24, none⟩ = some (.string a1_24) := (blk_cell BK129.out 24).trans rfl
          have hcz64_25 : wc.cell? ⟨gb129, 25, none⟩ = some (.string a1_25) := (blk_cell BK129.out 25).trans rfl
          have hcz64_26 : wc.cell? ⟨gb129, 26, none⟩ = some (.bool a1_26) := (blk_cell BK129.out 26).trans rfl
          have hcz64_27 : wc.cell? ⟨gb129, 27, none⟩ = some (.int .i64 a1_27) := (blk_cell BK129.out 27).trans rfl
          have hcz64_28 : wc.cell? ⟨gb129, 28, none⟩ = some (.slice A1_28 l1_28.length c1_28) := (blk_cell BK129.out 28).trans rfl
          have hfz64_0 := blk_frozen BK129.out 0
          have hfz64_1 := blk_frozen BK129.out 1
          have hfz64_2 := blk_frozen BK129.out 2
          have hfz64_3 := blk_frozen BK129.out 3
          have hfz64_4 := blk_frozen BK129.out 4
          have hfz64_5 := blk_frozen BK129.out 5
          have hfz64_6 := blk_frozen BK129.out 6
          have hfz64_7 := blk_frozen BK129.out 7
          have hfz64_8 := blk_frozen BK129.out 8
          have hfz64_9 := blk_frozen BK129.out 9
          have hfz64_10 := blk_frozen BK129.out 10
          have hfz64_11 := blk_frozen BK129.out 11
          have hfz64_12 := blk_frozen BK129.out 12
          have hfz64_13 := blk_frozen BK129.out 13
          have hfz64_14 := blk_frozen BK129.out 14
          have hfz64_15 := blk_frozen BK129.out 15
          have hfz64_16 := blk_frozen BK129.out 16
          have hfz64_17 := blk_frozen BK129.out 17
          have hfz64_18 := blk_frozen BK129.out 18
          have hfz64_19 := blk_frozen BK129.out 19
          have hfz64_20 := blk_frozen BK129.out 20
          have hfz64_21 := blk_frozen BK129.out 21
          have hfz64_22 := blk_frozen BK129.out 22
          have hfz64_23 := blk_frozen BK129.out 23
          have hfz64_24 := blk_frozen BK129.out 24
          have hfz64_25 := blk_frozen BK129.out 25
          have hfz64_26 := blk_frozen BK129.out 26
          have hfz64_27 := blk_frozen BK129.out 27
          have hfz64_28 := blk_frozen BK129.out 28
          go_wp2_with (first | ((with_reducible refine gate_callee (f := 25) rfl ?_); refine goesL_ (some 89) rfl rfl Tryd.func25 (by kernel_rfl) rfl #[.agg #[.string a0_9, .int .i64 a0_10, .int .i64 a0_11, .int .i64 a0_12, .int .i64 a0_13, .bool a0_14, .slice A0_15 l0_15.length c0_15, .slice A0_16 l0_16.length c0_16], .agg #[.string a1_9, .int .i64 a1_10, .int .i64 a1_11, .int .i64 a1_12, .int .i64 a1_13, .bool a1_14, .slice A1_15 l1_15.length c1_15, .slice A1_16 l1_16.length c1_16]] rfl (by (try simp only [List.map_toArray, List.map_cons, List.map_nil]); first | done | rfl | (simp only [List.length_drop, List.length_take]; rfl) | exact congrArg (fun n_ : Nat => #[Value.slice _ n_ _]) (Eq.trans (Aside0.out (by assumption)) (Eq.symm (Aside0.out (by assumption)))) | exact congrArg (fun n_ : Nat => #[Value.slice _ n_ _, Value.slice _ _ _]) (Eq.trans (Aside0.out (by assumption)) (Eq.symm (Aside0.out (by assumption))))) ?_; (with_reducible refine (rosterref13_sameSearch.calls kj29 a0_9 a0_10 a0_11 a0_12 a0_13 a0_14 _ _ l0_15 _ _ l0_16 a1_9 a1_10 a1_11 a1_12 a1_13 a1_14 _ _ l1_15 _ _ l1_16 true _ ?side1 ?side2 ?side3 ?side4 ?side5 ?side6 ?side7 ?side8 A55.out).mono ?_); (case side1 => repeat (first | exact (Kd.C_below HR0_15.out HB.out) | exact (Kd.C_below (Aside0.out (by assumption)) HB.out) | (with_reducible refine Kd.C_alloc ?_ _) | (with_reducible refine Kd.C_drewN ?_ _) | (with_reducible refine Kd.C_drew ?_))); (case side2 => first | exact HC0_15.out | exact Aside0.out (by assumption)); (case side3 => repeat (first | exact (Kd.C_below HR0_16.out HB.out) | exact (Kd.C_below (Aside0.out (by assumption)) HB.out) | (with_reducible refine Kd.C_alloc ?_ _) | (with_reducible refine Kd.C_drewN ?_ _) | (with_reducible refine Kd.C_drew ?_))); (case side4 => first | exact HC0_16.out | exact Aside0.out (by assumption)); (case side5 => repeat (first | exact (Kd.C_below HR1_15.out HB.out) | exact (Kd.C_below (Aside0.out (by assumption)) HB.out) | (with_reducible refine Kd.C_alloc ?_ _) | (with_reducible refine Kd.C_drewN ?_ _) | (with_reducible refine Kd.C_drew ?_))); (case side6 => first | exact HC1_15.out | exact Aside0.out (by assumption)); (case side7 => repeat (first | exact (Kd.C_below HR1_16.out HB.out) | exact (Kd.C_below (Aside0.out (by assumption)) HB.out) | (with_reducible refine Kd.C_alloc ?_ _) | (with_reducible refine Kd.C_drewN ?_ _) | (with_reducible refine Kd.C_drew ?_))); (case side8 => first | exact HC1_16.out | exact Aside0.out (by assumption)); rintro e w65 ⟨rfl, hb⟩; refine ⟨_, rfl, ?_⟩; have n0_ := Aside0.mk (blk_below (g := gb128) (o := .cells #[.int .i64 a0_0, .int .i64 a0_1, .int .i64 a0_2, .string a0_3, .int .i64 a0_4, .string a0_5, .string a0_6, .string a0_7, .bool a0_8, .string a0_9, .int .i64 a0_10, .int .i64 a0_11, .int .i64 a0_12, .int .i64 a0_13, .bool a0_14, .slice A0_15 l0_15.length c0_15, .slice A0_16 l0_16.length c0_16, .string a0_17, .slice A0_18 l0_18.length c0_18, .slice A0_19 l0_19.length c0_19, .string a0_20, .bool a0_21, .string a0_22, .bool a0_23, .string a0_24, .string a0_25, .bool a0_26, .int .i64 a0_27, .slice A0_28 l0_28.length c0_28] 36 (0, 0)) (by (with_reducible repeat (first | refine blk_drewN ?_ _ | refine blk_drew ?_ | refine blk_alloc ?_ _)); exact BK128.out) hb); have n1_ := Aside0.mk (blk_below (g := gb129) (o := .cells #[.int .i64 a1_0, .int .i64 a1_1, .int .i64 a1_2, .string a1_3, .int .i64 a1_4, .string a1_5, .string a1_6, .string a1_7, .bool a1_8, .string a1_9, .int .i64 a1_10, .int .i64 a1_11, .int .i64 a1_12, .int .i64 a1_13, .bool a1_14, .slice A1_15 l1_15.length c1_15, .slice A1_16 l1_16.length c1_16, .string a1_17, .slice A1_18 l1_18.length c1_18, .slice A1_19 l1_19.length c1_19, .string a1_20, .bool a1_21, .string a1_22, .bool a1_23, .string a1_24, .string a1_25, .bool a1_26, .int .i64 a1_27, .slice A1_28 l1_28.length c1_28] 36 (0, 0)) (by (with_reducible repeat (first | refine blk_drewN ?_ _ | refine blk_drew ?_ | refine blk_alloc ?_ _)); exact BK129.out) hb); have n2_ := Aside0.mk (below_step (by repeat (first | (with_reducible first | exact HB.out | apply below_alloc | apply pw_below_drewN | apply below_drew1 | refine below_set ?_ GE128.out | refine below_set ?_ GE129.out) | exact HB.out)) hb); clear BK128; clear BK129; clear HB; have BK128 := n0_; have BK129 := n1_; have HB := n2_; clear n0_ n1_ n2_; (try clear hb); (try clear hb2); (try clear hk); (try clear hi); have hcz66_0 : w65.cell? ⟨gb128, 0, none⟩ = some (.int .i64 a0_0) := (blk_cell BK128.out 0).trans rfl; have hcz66_1 : w65.cell? ⟨gb128, 1, none⟩ = some (.int .i64 a0_1) := (blk_cell BK128.out 1).trans rfl; have hcz66_2 : w65.cell? ⟨gb128, 2, none⟩ = some (.int .i64 a0_2) := (blk_cell BK128.out 2).trans rfl; have hcz66_3 : w65.cell? ⟨gb128, 3, none⟩ = some (.string a0_3) := (blk_cell BK128.out 3).trans rfl; have hcz66_4 : w65.cell? ⟨gb128, 4, none⟩ = some (.int .i64 a0_4) := (blk_cell BK128.out 4).trans rfl; have hcz66_5 : w65.cell? ⟨gb128, 5, none⟩ = some (.string a0_5) := (blk_cell BK128.out 5).trans rfl; have hcz66_6 : w65.cell? ⟨gb128, 6, none⟩ = some (.string a0_6) := (blk_cell BK128.out 6).trans rfl; have hcz66_7 : w65.cell? ⟨gb128, 7, none⟩ = some (.string a0_7) := (blk_cell BK128.out 7).trans rfl; have hcz66_8 : w65.cell? ⟨gb128, 8, none⟩ = some (.bool a0_8) := (blk_cell BK128.out 8).trans rfl; have hcz66_9 : w65.cell? ⟨gb128, 9, none⟩ = some (.string a0_9) := (blk_cell BK128.out 9).trans rfl; have hcz66_10 : w65.cell? ⟨gb128, 10, none⟩ = some (.int .i64 a0_10) := (blk_cell BK128.out 10).trans rfl; have hcz66_11 : w65.cell? ⟨gb128, 11, none⟩ = some (.int .i64 a0_11) := (blk_cell BK128.out 11).trans rfl; have hcz66_12 : w65.cell? ⟨gb128, 12, none⟩ = some (.int .i64 a0_12) := (blk_cell BK128.out 12).trans rfl; have hcz66_13 : w65.cell? ⟨gb128, 13, none⟩ = some (.int .i64 a0_13) := (blk_cell BK128.out 13).trans rfl; have hcz66_14 : w65.cell? ⟨gb128, 14, none⟩ = some (.bool a0_14) := (blk_cell BK128.out 14).trans rfl; have hcz66_15 : w65.cell? ⟨gb128, 15, none⟩ = some (.slice A0_15 l0_15.length c0_15) := (blk_cell BK128.out 15).trans rfl; have hcz66_16 : w65.cell? ⟨gb128, 16, none⟩ = some (.slice A0_16 l0_16.length c0_16) := (blk_cell BK128.out 16).trans rfl; have hcz66_17 : w65.cell? ⟨gb128, 17, none⟩ = some (.string a0_17) := (blk_cell BK128.out 17).trans rfl; have hcz66_18 : w65.cell? ⟨gb128, 18, none⟩ = some (.slice A0_18 l0_18.length c0_18) := (blk_cell BK128.out 18).trans rfl; have hcz66_19 : w65.cell? ⟨gb128, 19, none⟩ = some (.slice A0_19 l0_19.length c0_19) := (blk_cell BK128.out 19).trans rfl; have hcz66_20 : w65.cell? ⟨gb128, 20, none⟩ = some (.string a0_20) := (blk_cell BK128.out 20).trans rfl; have hcz66_21 : w65.cell? ⟨gb128, 21, none⟩ = some (.bool a0_21) := (blk_cell BK128.out 21).trans rfl; have hcz66_22 : w65.cell? ⟨gb128, 22, none⟩ = some (.string a0_22) := (blk_cell BK128.out 22).trans rfl; have hcz66_23 : w65.cell? ⟨gb128, 23, none⟩ = some (.bool a0_23) := (blk_cell BK128.out 23).trans rfl; have hcz66_24 : w65.cell? ⟨gb128, 24, none⟩ = some (.string a0_24) := (blk_cell BK128.out 24).trans rfl; have hcz66_25 : w65.cell? ⟨gb128, 25, none⟩ = some (.string a0_25) := (blk_cell BK128.out 25).trans rfl; have hcz66_26 : w65.cell? ⟨gb128, 26, none⟩ = some (.bool a0_26) := (blk_cell BK128.out 26).trans rfl; have hcz66_27 : w65.cell? ⟨gb128, 27, none⟩ = some (.int .i64 a0_27) := (blk_cell BK128.out 27).trans rfl; have hcz66_28 : w65.cell? ⟨gb128, 28, none⟩ = some (.slice A0_28 l0_28.length c0_28) := (blk_cell BK128.out 28).trans rfl; have hfz66_0 := blk_frozen BK128.out 0; have hfz66_1 := blk_frozen BK128.out 1; have hfz66_2 := blk_frozen BK128.out 2; have hfz66_3 := blk_frozen BK128.out 3; have hfz66_4 := blk_frozen BK128.out 4; have hfz66_5 := blk_frozen BK128.out 5; have hfz66_6 := blk_frozen BK128.out 6; have hfz66_7 := blk_frozen BK128.out 7; have hfz66_8 := blk_frozen BK128.out 8; have hfz66_9 := blk_frozen BK128.out 9; have hfz66_10 := blk_frozen BK128.out 10; have hfz66_11 := blk_frozen BK128.out 11; have hfz66_12 := blk_frozen BK128.out 12; have hfz66_13 := blk_frozen BK128.out 13; have hfz66_14 := blk_frozen BK128.out 14; have hfz66_15 := blk_frozen BK128.out 15; have hfz66_16 := blk_frozen BK128.out 16; have hfz66_17 := blk_frozen BK128.out 17; have hfz66_18 := blk_frozen BK128.out 18; have hfz66_19 := blk_frozen BK128.out 19; have hfz66_20 := blk_frozen BK128.out 20; have hfz66_21 := blk_frozen BK128.out 21; have hfz66_22 := blk_frozen BK128.out 22; have hfz66_23 := blk_frozen BK128.out 23; have hfz66_24 := blk_frozen BK128.out 24; have hfz66_25 := blk_frozen BK128.out 25; have hfz66_26 := blk_frozen BK128.out 26; have hfz66_27 := blk_frozen BK128.out 27; have hfz66_28 := blk_frozen BK128.out 28; have hcz67_0 : w65.cell? ⟨gb129, 0, none⟩ = some (.int .i64 a1_0) := (blk_cell BK129.out 0).trans rfl; have hcz67_1 : w65.cell? ⟨gb129, 1, none⟩ = some (.int .i64 a1_1) := (blk_cell BK129.out 1).trans rfl; have hcz67_2 : w65.cell? ⟨gb129, 2, none⟩ = some (.int .i64 a1_2) := (blk_cell BK129.out 2).trans rfl; have hcz67_3 : w65.cell? ⟨gb129, 3, none⟩ = some (.string a1_3) := (blk_cell BK129.out 3).trans rfl; have hcz67_4 : w65.cell? ⟨gb129, 4, none⟩ = some (.int .i64 a1_4) := (blk_cell BK129.out 4).trans rfl; have hcz67_5 : w65.cell? ⟨gb129, 5, none⟩ = some (.string a1_5) := (blk_cell BK129.out 5).trans rfl; have hcz67_6 : w65.cell? ⟨gb129, 6, none⟩ = some (.string a1_6) := (blk_cell BK129.out 6).trans rfl; have hcz67_7 : w65.cell? ⟨gb129, 7, none⟩ = some (.string a1_7) := (blk_cell BK129.out 7).trans rfl; have hcz67_8 : w65.cell? ⟨gb129, 8, none⟩ = some (.bool a1_8) := (blk_cell BK129.out 8).trans rfl; have hcz67_9 : w65.cell? ⟨gb129, 9, none⟩ = some (.string a1_9) := (blk_cell BK129.out 9).trans rfl; have hcz67_10 : w65.cell? ⟨gb129, 10, none⟩ = some (.int .i64 a1_10) := (blk_cell BK129.out 10).trans rfl; have hcz67_11 : w65.cell? ⟨gb129, 11, none⟩ = some (.int .i64 a1_11) := (blk_cell BK129.out 11).trans rfl; have hcz67_12 : w65.cell? ⟨gb129, 12, none⟩ = some (.int .i64 a1_12) := (blk_cell BK129.out 12).trans rfl; have hcz67_13 : w65.cell? ⟨gb129, 13, none⟩ = some (.int .i64 a1_13) := (blk_cell BK129.out 13).trans rfl; have hcz67_14 : w65.cell? ⟨gb129, 14, none⟩ = some (.bool a1_14) := (blk_cell BK129.out 14).trans rfl; have hcz67_15 : w65.cell? ⟨gb129, 15, none⟩ = some (.slice A1_15 l1_15.length c1_15) := (blk_cell BK129.out 15).trans rfl; have hcz67_16 : w65.cell? ⟨gb129, 16, none⟩ = some (.slice A1_16 l1_16.length c1_16) := (blk_cell BK129.out 16).trans rfl; have hcz67_17 : w65.cell? ⟨gb129, 17, none⟩ = some (.string a1_17) := (blk_cell BK129.out 17).trans rfl; have hcz67_18 : w65.cell? ⟨gb129, 18, none⟩ = some (.slice A1_18 l1_18.length c1_18) := (blk_cell BK129.out 18).trans rfl; have hcz67_19 : w65.cell? ⟨gb129, 19, none⟩ = some (.slice A1_19 l1_19.length c1_19) := (blk_cell BK129.out 19).trans rfl; have hcz67_20 : w65.cell? ⟨gb129, 20, none⟩ = some (.string a1_20) := (blk_cell BK129.out 20).trans rfl; have hcz67_21 : w65.cell? ⟨gb129, 21, none⟩ = some (.bool a1_21) := (blk_cell BK129.out 21).trans rfl; have hcz67_22 : w65.cell? ⟨gb129, 22, none⟩ = some (.string a1_22) := (blk_cell BK129.out 22).trans rfl; have hcz67_23 : w65.cell? ⟨gb129, 23, none⟩ = some (.bool a1_23) := (blk_cell BK129.out 23).trans rfl; have hcz67_24 : w65.cell? ⟨gb129, 24, none⟩ = some (.string a1_24) := (blk_cell BK129.out 24).trans rfl; have hcz67_25 : w65.cell? ⟨gb129, 25, none⟩ = some (.string a1_25) := (blk_cell BK129.out 25).trans rfl; have hcz67_26 : w65.cell? ⟨gb129, 26, none⟩ = some (.bool a1_26) := (blk_cell BK129.out 26).trans rfl; have hcz67_27 : w65.cell? ⟨gb129, 27, none⟩ = some (.int .i64 a1_27) := (blk_cell BK129.out 27).trans rfl; have hcz67_28 : w65.cell? ⟨gb129, 28, none⟩ = some (.slice A1_28 l1_28.length c1_28) := (blk_cell BK129.out 28).trans rfl; have hfz67_0 := blk_frozen BK129.out 0; have hfz67_1 := blk_frozen BK129.out 1; have hfz67_2 := blk_frozen BK129.out 2; have hfz67_3 := blk_frozen BK129.out 3; have hfz67_4 := blk_frozen BK129.out 4; have hfz67_5 := blk_frozen BK129.out 5; have hfz67_6 := blk_frozen BK129.out 6; have hfz67_7 := blk_frozen BK129.out 7; have hfz67_8 := blk_frozen BK129.out 8; have hfz67_9 := blk_frozen BK129.out 9; have hfz67_10 := blk_frozen BK129.out 10; have hfz67_11 := blk_frozen BK129.out 11; have hfz67_12 := blk_frozen BK129.out 12; have hfz67_13 := blk_frozen BK129.out 13; have hfz67_14 := blk_frozen BK129.out 14; have hfz67_15 := blk_frozen BK129.out 15; have hfz67_16 := blk_frozen BK129.out 16; have hfz67_17 := blk_frozen BK129.out 17; have hfz67_18 := blk_frozen BK129.out 18; have hfz67_19 := blk_frozen BK129.out 19; have hfz67_20 := blk_frozen BK129.out 20; have hfz67_21 := blk_frozen BK129.out 21; have hfz67_22 := blk_frozen BK129.out 22; have hfz67_23 := blk_frozen BK129.out 23; have hfz67_24 := blk_frozen BK129.out 24; have hfz67_25 := blk_frozen BK129.out 25; have hfz67_26 := blk_frozen BK129.out 26; have hfz67_27 := blk_frozen BK129.out 27; have hfz67_28 := blk_frozen BK129.out 28) | (go_at_call 26; (with_reducible refine (rosterref13_sameChanges.calls kj29 _ _ l0_18 _ _ l1_18 true _ ?side1 ?side2 ?side3 ?side4 A57.out).mono ?_); (case side1 => repeat (first | exact (Kd.C_below HR0_18.out HB.out) | exact (Kd.C_below (Aside0.out (by assumption)) HB.out) | (with_reducible refine Kd.C_alloc ?_ _) | (with_reducible refine Kd.C_drewN ?_ _) | (with_reducible refine Kd.C_drew ?_))); (case side2 => first | exact HC0_18.out | exact Aside0.out (by assumption)); (case side3 => repeat (first | exact (Kd.C_below HR1_18.out HB.out) | exact (Kd.C_below (Aside0.out (by assumption)) HB.out) | (with_reducible refine Kd.C_alloc ?_ _) | (with_reducible refine Kd.C_drewN ?_ _) | (with_reducible refine Kd.C_drew ?_))); (case side4 => first | exact HC1_18.out | exact Aside0.out (by assumption)); rintro e w' ⟨rfl, ⟨nd, rfl⟩⟩) | (go_at_call 18; (with_reducible refine (rosterref13_sameAttrs.calls kj29 _ _ l0_19 _ _ l1_19 true _ ?side1 ?side2 ?side3 ?side4 A59.out).mono ?_); (case side1 => repeat (first | exact (Kd.C_below HR0_19.out (by repeat (first | (with_reducible first | exact HB.out | apply below_alloc | apply pw_below_drewN | apply below_drew1 | refine below_set ?_ GE128.out | refine below_set ?_ GE129.out) | exact HB.out))) | (with_reducible refine Kd.C_alloc ?_ _) | (with_reducible refine Kd.C_drewN ?_ _) | (with_reducible refine Kd.C_drew ?_))); (case side2 => first | exact HC0_19.out | exact Aside0.out (by assumption)); (case side3 => repeat (first | exact (Kd.C_below HR1_19.out (by repeat (first | (with_reducible first | exact HB.out | apply below_alloc | apply pw_below_drewN | apply below_drew1 | refine below_set ?_ GE128.out | refine below_set ?_ GE129.out) | exact HB.out))) | (with_reducible refine Kd.C_alloc ?_ _) | (with_reducible refine Kd.C_drewN ?_ _) | (with_reducible refine Kd.C_drew ?_))); (case side4 => first | exact HC1_19.out | exact Aside0.out (by assumption)); rintro e w' ⟨rfl, ⟨nd, rfl⟩⟩) | (go_at_call 19; (with_reducible refine (rosterref13_sameControls.calls kj29 _ _ l0_28 _ _ l1_28 t133 _ ?side1 ?side2 ?side3 ?side4 A61.out).mono ?_); (case side1 => repeat (first | exact (Kd.C_below HR0_28.out (by repeat (first | (with_reducible first | exact HB.out | apply below_alloc | apply pw_below_drewN | apply below_drew1 | refine below_set ?_ GE128.out | refine below_set ?_ GE129.out) | exact HB.out))) | (with_reducible refine Kd.C_alloc ?_ _) | (with_reducible refine Kd.C_drewN ?_ _) | (with_reducible refine Kd.C_drew ?_))); (case side2 => first | exact HC0_28.out | exact Aside0.out (by assumption)); (case side3 => repeat (first | exact (Kd.C_below HR1_28.out (by repeat (first | (with_reducible first | exact HB.out | apply below_alloc | apply pw_below_drewN | apply below_drew1 | refine below_set ?_ GE128.out | refine below_set ?_ GE129.out) | exact HB.out))) | (with_reducible refine Kd.C_alloc ?_ _) | (with_reducible refine Kd.C_drewN ?_ _) | (with_reducible refine Kd.C_drew ?_))); (case side4 => first | exact HC1_28.out | exact Aside0.out (by assumption)); rintro e w' ⟨rfl, ⟨nd, rfl⟩⟩))
          go_ret
          exact ⟨by first | rfl | (simp [isEmpty_ne_]; done) | (simp [*, errW_none, errW_some] <;> rfl), by repeat (first | (with_reducible first | exact HB.out | apply below_alloc | apply pw_below_drewN | apply below_drew1 | refine below_set ?_ GE128.out | refine below_set ?_ GE129.out) | exact HB.out)⟩
         ·replace c60 := Bool.eq_false_iff.mpr c60
          subst c60
          have H1 : (some false) = some r := by rw [if_neg (show ¬ (false = true) by decide)] at H; exact H
          clear H
          have H := H1
          clear H1
          obtain rfl := Option.some.inj H
          have hnb68 := NB128_129.out
          have hnc68 := NB129_128.out
          have hcz69_0 : wc.cell? ⟨gb128, 0, none⟩ = some (.int .i64 a0_0) := (blk_cell BK128.out 0).trans rfl
          have hcz69_1 : wc.cell? ⟨gb128, 1, none⟩ = some (.int .i64 a0_1) := (blk_cell BK128.out 1).trans rfl
          have hcz69_2 : wc.cell? ⟨gb128, 2, none⟩ = some (.int .i64 a0_2) := (blk_cell BK128.out 2).trans rfl
          have hcz69_3 : wc.cell? ⟨gb128, 3, none⟩ = some (.string a0_3) := (blk_cell BK128.out 3).trans rfl
          have hcz69_4 : wc.cell? ⟨gb128, 4, none⟩ = some (.int .i64 a0_4) := (blk_cell BK128.out 4).trans rfl
          have hcz69_5 : wc.cell? ⟨gb128, 5, none⟩ = some (.string a0_5) := (blk_cell BK128.out 5).trans rfl
          have hcz69_6 : wc.cell? ⟨gb128, 6, none⟩ = some (.string a0_6) := (blk_cell BK128.out 6).trans rfl
          have hcz69_7 : wc.cell? ⟨gb128, 7, none⟩ = some (.string a0_7) := (blk_cell BK128.out 7).trans rfl
          have hcz69_8 : wc.cell? ⟨gb128, 8, none⟩ = some (.bool a0_8) := (blk_cell BK128.out 8).trans rfl
          have hcz69_9 : wc.cell? ⟨gb128, 9, none⟩ = some (.string a0_9) := (blk_cell BK128.out 9).trans rfl
          have hcz69_10 : wc.cell? ⟨gb128, 10, none⟩ = some (.int .i64 a0_10) := (blk_cell BK128.out 10).trans rfl
          have hcz69_11 : wc.cell? ⟨gb128, 11, none⟩ = some (.int .i64 a0_11) := (blk_cell BK128.out 11).trans rfl
          have hcz69_12 : wc.cell? ⟨gb128, 12, none⟩ = some (.int .i64 a0_12) := (blk_cell BK128.out 12).trans rfl
          have hcz69_13 : wc.cell? ⟨gb128, 13, none⟩ = some (.int .i64 a0_13) := (blk_cell BK128.out 13).trans rfl
          have hcz69_14 : wc.cell? ⟨gb128, 14, none⟩ = some (.bool a0_14) := (blk_cell BK128.out 14).trans rfl
          have hcz69_15 : wc.cell? ⟨gb128, 15, none⟩ = some (.slice A0_15 l0_15.length c0_15) := (blk_cell BK128.out 15).trans rfl
          have hcz69_16 : wc.cell? ⟨gb128, 16, none⟩ = some (.slice A0_16 l0_16.length c0_16) := (blk_cell BK128.out 16).trans rfl
          have hcz69_17 : wc.cell? ⟨gb128, 17, none⟩ = some (.string a0_17) := (blk_cell BK128.out 17).trans rfl
          have hcz69_18 : wc.cell? ⟨gb128, 18, none⟩ = some (.slice A0_18 l0_18.length c0_18) := (blk_cell BK128.out 18).trans rfl
          have hcz69_19 : wc.cell? ⟨gb128, 19, none⟩ = some (.slice A0_19 l0_19.length c0_19) := (blk_cell BK128.out 19).trans rfl
          have hcz69_20 : wc.cell? ⟨gb128, 20, none⟩ = some (.string a0_20) := (blk_cell BK128.out 20).trans rfl
          have hcz69_21 : wc.cell? ⟨gb128, 21, none⟩ = some (.bool a0_21) := (blk_cell BK128.out 21).trans rfl
          have hcz69_22 : wc.cell? ⟨gb128, 22, none⟩ = some (.string a0_22) := (blk_cell BK128.out 22).trans rfl
          have hcz69_23 : wc.cell? ⟨gb128, 23, none⟩ = some (.bool a0_23) := (blk_cell BK128.out 23).trans rfl
          have hcz69_24 : wc.cell? ⟨gb128, 24, none⟩ = some (.string a0_24) := (blk_cell BK128.out 24).trans rfl
          have hcz69_25 : wc.cell? ⟨gb128, 25, none⟩ = some (.string a0_25) := (blk_cell BK128.out 25).trans rfl
          have hcz69_26 : wc.cell? ⟨gb128, 26, none⟩ = some (.bool a0_26) := (blk_cell BK128.out 26).trans rfl
          have hcz69_27 : wc.cell? ⟨gb128, 27, none⟩ = some (.int .i64 a0_27) := (blk_cell BK128.out 27).trans rfl
          have hcz69_28 : wc.cell? ⟨gb128, 28, none⟩ = some (.slice A0_28 l0_28.length c0_28) := (blk_cell BK128.out 28).trans rfl
          have hfz69_0 := blk_frozen BK128.out 0
          have hfz69_1 := blk_frozen BK128.out 1
          have hfz69_2 := blk_frozen BK128.out 2
          have hfz69_3 := blk_frozen BK128.out 3
          have hfz69_4 := blk_frozen BK128.out 4
          have hfz69_5 := blk_frozen BK128.out 5
          have hfz69_6 := blk_frozen BK128.out 6
          have hfz69_7 := blk_frozen BK128.out 7
          have hfz69_8 := blk_frozen BK128.out 8
          have hfz69_9 := blk_frozen BK128.out 9
          have hfz69_10 := blk_frozen BK128.out 10
          have hfz69_11 := blk_frozen BK128.out 11
          have hfz69_12 := blk_frozen BK128.out 12
          have hfz69_13 := blk_frozen BK128.out 13
          have hfz69_14 := blk_frozen BK128.out 14
          have hfz69_15 := blk_frozen BK128.out 15
          have hfz69_16 := blk_frozen BK128.out 16
          have hfz69_17 := blk_frozen BK128.out 17
          have hfz69_18 := blk_frozen BK128.out 18
          have hfz69_19 := blk_frozen BK128.out 19
          have hfz69_20 := blk_frozen BK128.out 20
          have hfz69_21 := blk_frozen BK128.out 21
          have hfz69_22 := blk_frozen BK128.out 22
          have hfz69_23 := blk_frozen BK128.out 23
          have hfz69_24 := blk_frozen BK128.out 24
          have hfz69_25 := blk_frozen BK128.out 25
          have hfz69_26 := blk_frozen BK128.out 26
          have hfz69_27 := blk_frozen BK128.out 27
          have hfz69_28 := blk_frozen BK128.out 28
          have hcz70_0 : wc.cell? ⟨gb129, 0, none⟩ = some (.int .i64 a1_0) := (blk_cell BK129.out 0).trans rfl
          have hcz70_1 : wc.cell? ⟨gb129, 1, none⟩ = some (.int .i64 a1_1) := (blk_cell BK129.out 1).trans rfl
          have hcz70_2 : wc.cell? ⟨gb129, 2, none⟩ = some (.int .i64 a1_2) := (blk_cell BK129.out 2).trans rfl
          have hcz70_3 : wc.cell? ⟨gb129, 3, none⟩ = some (.string a1_3) := (blk_cell BK129.out 3).trans rfl
          have hcz70_4 : wc.cell? ⟨gb129, 4, none⟩ = some (.int .i64 a1_4) := (blk_cell BK129.out 4).trans rfl
          have hcz70_5 : wc.cell? ⟨gb129, 5, none⟩ = some (.string a1_5) := (blk_cell BK129.out 5).trans rfl
          have hcz70_6 : wc.cell? ⟨gb129, 6, none⟩ = some (.string a1_6) := (blk_cell BK129.out 6).trans rfl
          have hcz70_7 : wc.cell? ⟨gb129, 7, none⟩ = some (.string a1_7) := (blk_cell BK129.out 7).trans rfl
          have hcz70_8 : wc.cell? ⟨gb129, 8, none⟩ = some (.bool a1_8) := (blk_cell BK129.out 8).trans rfl
          have hcz70_9 : wc.cell? ⟨gb129, 9, none⟩ = some (.string a1_9) := (blk_cell BK129.out 9).trans rfl
          have hcz70_10 : wc.cell? ⟨gb129, 10, none⟩ = some (.int .i64 a1_10) := (blk_cell BK129.out 10).trans rfl
          have hcz70_11 : wc.cell? ⟨gb129, 11, none⟩ = some (.int .i64 a1_11) := (blk_cell BK129.out 11).trans rfl
          have hcz70_12 : wc.cell? ⟨gb129, 12, none⟩ = some (.int .i64 a1_12) := (blk_cell BK129.out 12).trans rfl
          have hcz70_13 : wc.cell? ⟨gb129, 13, none⟩ = some (.int .i64 a1_13) := (blk_cell BK129.out 13).trans rfl
          have hcz70_14 : wc.cell? ⟨gb129, 14, none⟩ = some (.bool a1_14) := (blk_cell BK129.out 14).trans rfl
          have hcz70_15 : wc.cell? ⟨gb129, 15, none⟩ = some (.slice A1_15 l1_15.length c1_15) := (blk_cell BK129.out 15).trans rfl
          have hcz70_16 : wc.cell? ⟨gb129, 16, none⟩ = some (.slice A1_16 l1_16.length c1_16) := (blk_cell BK129.out 16).trans rfl
          have hcz70_17 : wc.cell? ⟨gb129, 17, none⟩ = some (.string a1_17) := (blk_cell BK129.out 17).trans rfl
          have hcz70_18 : wc.cell? ⟨gb129, 18, none⟩ = some (.slice A1_18 l1_18.length c1_18) := (blk_cell BK129.out 18).trans rfl
          have hcz70_19 : wc.cell? ⟨gb129, 19, none⟩ = some (.slice A1_19 l1_19.length c1_19) := (blk_cell BK129.out 19).trans rfl
          have hcz70_20 : wc.cell? ⟨gb129, 20, none⟩ = some (.string a1_20) := (blk_cell BK129.out 20).trans rfl
          have hcz70_21 : wc.cell? ⟨gb129, 21, none⟩ = some (.bool a1_21) := (blk_cell BK129.out 21).trans rfl
          have hcz70_22 : wc.cell? ⟨gb129, 22, none⟩ = some (.string a1_22) := (blk_cell BK129.out 22).trans rfl
          have hcz70_23 : wc.cell? ⟨gb129, 23, none⟩ = some (.bool a1_23) := (blk_cell BK129.out 23).trans rfl
          have hcz70_24 : wc.cell? ⟨gb129, 24, none⟩ = some (.string a1_24) := (blk_cell BK129.out 24).trans rfl
          have hcz70_25 : wc.cell? ⟨gb129, 25, none⟩ = some (.string a1_25) := (blk_cell BK129.out 25).trans rfl
          have hcz70_26 : wc.cell? ⟨gb129, 26, none⟩ = some (.bool a1_26) := (blk_cell BK129.out 26).trans rfl
          have hcz70_27 : wc.cell? ⟨gb129, 27, none⟩ = some (.int .i64 a1_27) := (blk_cell BK129.out 27).trans rfl
          have hcz70_28 : wc.cell? ⟨gb129, 28, none⟩ = some (.slice A1_28 l1_28.length c1_28) := (blk_cell BK129.out 28).trans rfl
          have hfz70_0 := blk_frozen BK129.out 0
          have hfz70_1 := blk_frozen BK129.out 1
          have hfz70_2 := blk_frozen BK129.out 2
          have hfz70_3 := blk_frozen BK129.out 3
          have hfz70_4 := blk_frozen BK129.out 4
          have hfz70_5 := blk_frozen BK129.out 5
          have hfz70_6 := blk_frozen BK129.out 6
          have hfz70_7 := blk_frozen BK129.out 7
          have hfz70_8 := blk_frozen BK129.out 8
          have hfz70_9 := blk_frozen BK129.out 9
          have hfz70_10 := blk_frozen BK129.out 10
          have hfz70_11 := blk_frozen BK129.out 11
          have hfz70_12 := blk_frozen BK129.out 12
          have hfz70_13 := blk_frozen BK129.out 13
          have hfz70_14 := blk_frozen BK129.out 14
          have hfz70_15 := blk_frozen BK129.out 15
          have hfz70_16 := blk_frozen BK129.out 16
          have hfz70_17 := blk_frozen BK129.out 17
          have hfz70_18 := blk_frozen BK129.out 18
          have hfz70_19 := blk_frozen BK129.out 19
          have hfz70_20 := blk_frozen BK129.out 20
          have hfz70_21 := blk_frozen BK129.out 21
          have hfz70_22 := blk_frozen BK129.out 22
          have hfz70_23 := blk_frozen BK129.out 23
          have hfz70_24 := blk_frozen BK129.out 24
          have hfz70_25 := blk_frozen BK129.out 25
          have hfz70_26 := blk_frozen BK129.out 26
          have hfz70_27 := blk_frozen BK129.out 27
          have hfz70_28 := blk_frozen BK129.out 28
          go_wp2_with (first | ((with_reducible refine gate_callee (f := 25) rfl ?_); refine goesL_ (some 89) rfl rfl Tryd.func25 (by kernel_rfl) rfl #[.agg #[.string a0_9, .int .i64 a0_10, .int .i64 a0_11, .int .i64 a0_12, .int .i64 a0_13, .bool a0_14, .slice A0_15 l0_15.length c0_15, .slice A0_16 l0_16.length c0_16], .agg #[.string a1_9, .int .i64 a1_10, .int .i64 a1_11, .int .i64 a1_12, .int .i64 a1_13, .bool a1_14, .slice A1_15 l1_15.length c1_15, .slice A1_16 l1_16.length c1_16]] rfl (by (try simp only [List.map_toArray, List.map_cons, List.map_nil]); first | done | rfl | (simp only [List.length_drop, List.length_take]; rfl) | exact congrArg (fun n_ : Nat => #[Value.slice _ n_ _]) (Eq.trans (Aside0.out (by assumption)) (Eq.symm (Aside0.out (by assumption)))) | exact congrArg (fun n_ : Nat => #[Value.slice _ n_ _, Value.slice _ _ _]) (Eq.trans (Aside0.out (by assumption)) (Eq.symm (Aside0.out (by assumption))))) ?_; (with_reducible refine (rosterref13_sameSearch.calls kj29 a0_9 a0_10 a0_11 a0_12 a0_13 a0_14 _ _ l0_15 _ _ l0_16 a1_9 a1_10 a1_11 a1_12 a1_13 a1_14 _ _ l1_15 _ _ l1_16 true _ ?side1 ?side2 ?side3 ?side4 ?side5 ?side6 ?side7 ?side8 A55.out).mono ?_); (case side1 => repeat (first | exact (Kd.C_below HR0_15.out HB.out) | exact (Kd.C_below (Aside0.out (by assumption)) HB.out) | (with_reducible refine Kd.C_alloc ?_ _) | (with_reducible refine Kd.C_drewN ?_ _) | (with_reducible refine Kd.C_drew ?_))); (case side2 => first | exact HC0_15.out | exact Aside0.out (by assumption)); (case side3 => repeat (first | exact (Kd.C_below HR0_16.out HB.out) | exact (Kd.C_below (Aside0.out (by assumption)) HB.out) | (with_reducible refine Kd.C_alloc ?_ _) | (with_reducible refine Kd.C_drewN ?_ _) | (with_reducible refine Kd.C_drew ?_))); (case side4 => first | exact HC0_16.out | exact Aside0.out (by assumption)); (case side5 => repeat (first | exact (Kd.C_below HR1_15.out HB.out) | exact (Kd.C_below (Aside0.out (by assumption)) HB.out) | (with_reducible refine Kd.C_alloc ?_ _) | (with_reducible refine Kd.C_drewN ?_ _) | (with_reducible refine Kd.C_drew ?_))); (case side6 => first | exact HC1_15.out | exact Aside0.out (by assumption)); (case side7 => repeat (first | exact (Kd.C_below HR1_16.out HB.out) | exact (Kd.C_below (Aside0.out (by assumption)) HB.out) | (with_reducible refine Kd.C_alloc ?_ _) | (with_reducible refine Kd.C_drewN ?_ _) | (with_reducible refine Kd.C_drew ?_))); (case side8 => first | exact HC1_16.out | exact Aside0.out (by assumption)); rintro e w71 ⟨rfl, hb⟩; refine ⟨_, rfl, ?_⟩; have n0_ := Aside0.mk (blk_below (g := gb128) (o := .cells #[.int .i64 a0_0, .int .i64 a0_1, .int .i64 a0_2, .string a0_3, .int .i64 a0_4, .string a0_5, .string a0_6, .string a0_7, .bool a0_8, .string a0_9, .int .i64 a0_10, .int .i64 a0_11, .int .i64 a0_12, .int .i64 a0_13, .bool a0_14, .slice A0_15 l0_15.length c0_15, .slice A0_16 l0_16.length c0_16, .string a0_17, .slice A0_18 l0_18.length c0_18, .slice A0_19 l0_19.length c0_19, .string a0_20, .bool a0_21, .string a0_22, .bool a0_23, .string a0_24, .string a0_25, .bool a0_26, .int .i64 a0_27, .slice A0_28 l0_28.length c0_28] 36 (0, 0)) (by (with_reducible repeat (first | refine blk_drewN ?_ _ | refine blk_drew ?_ | refine blk_alloc ?_ _)); exact BK128.out) hb); have n1_ := Aside0.mk (blk_below (g := gb129) (o := .cells #[.int .i64 a1_0, .int .i64 a1_1, .int .i64 a1_2, .string a1_3, .int .i64 a1_4, .string a1_5, .string a1_6, .string a1_7, .bool a1_8, .string a1_9, .int .i64 a1_10, .int .i64 a1_11, .int .i64 a1_12, .int .i64 a1_13, .bool a1_14, .slice A1_15 l1_15.length c1_15, .slice A1_16 l1_16.length c1_16, .string a1_17, .slice A1_18 l1_18.length c1_18, .slice A1_19 l1_19.length c1_19, .string a1_20, .bool a1_21, .string a1_22, .bool a1_23, .string a1_24, .string a1_25, .bool a1_26, .int .i64 a1_27, .slice A1_28 l1_28.length c1_28] 36 (0, 0)) (by (with_reducible repeat (first | refine blk_drewN ?_ _ | refine blk_drew ?_ | refine blk_alloc ?_ _)); exact BK129.out) hb); have n2_ := Aside0.mk (below_step (by repeat (first | (with_reducible first | exact HB.out | apply below_alloc | apply pw_below_drewN | apply below_drew1 | refine below_set ?_ GE128.out | refine below_set ?_ GE129.out) | exact HB.out)) hb); clear BK128; clear BK129; clear HB; have BK128 := n0_; have BK129 := n1_; have HB := n2_; clear n0_ n1_ n2_; (try clear hb); (try clear hb2); (try clear hk); (try clear hi); have hcz72_0 : w71.cell? ⟨gb128, 0, none⟩ = some (.int .i64 a0_0) := (blk_cell BK128.out 0).trans rfl; have hcz72_1 : w71.cell? ⟨gb128, 1, none⟩ = some (.int .i64 a0_1) := (blk_cell BK128.out 1).trans rfl; have hcz72_2 : w71.cell? ⟨gb128, 2, none⟩ = some (.int .i64 a0_2) := (blk_cell BK128.out 2).trans rfl; have hcz72_3 : w71.cell? ⟨gb128, 3, none⟩ = some (.string a0_3) := (blk_cell BK128.out 3).trans rfl; have hcz72_4 : w71.cell? ⟨gb128, 4, none⟩ = some (.int .i64 a0_4) := (blk_cell BK128.out 4).trans rfl; have hcz72_5 : w71.cell? ⟨gb128, 5, none⟩ = some (.string a0_5) := (blk_cell BK128.out 5).trans rfl; have hcz72_6 : w71.cell? ⟨gb128, 6, none⟩ = some (.string a0_6) := (blk_cell BK128.out 6).trans rfl; have hcz72_7 : w71.cell? ⟨gb128, 7, none⟩ = some (.string a0_7) := (blk_cell BK128.out 7).trans rfl; have hcz72_8 : w71.cell? ⟨gb128, 8, none⟩ = some (.bool a0_8) := (blk_cell BK128.out 8).trans rfl; have hcz72_9 : w71.cell? ⟨gb128, 9, none⟩ = some (.string a0_9) := (blk_cell BK128.out 9).trans rfl; have hcz72_10 : w71.cell? ⟨gb128, 10, none⟩ = some (.int .i64 a0_10) := (blk_cell BK128.out 10).trans rfl; have hcz72_11 : w71.cell? ⟨gb128, 11, none⟩ = some (.int .i64 a0_11) := (blk_cell BK128.out 11).trans rfl; have hcz72_12 : w71.cell? ⟨gb128, 12, none⟩ = some (.int .i64 a0_12) := (blk_cell BK128.out 12).trans rfl; have hcz72_13 : w71.cell? ⟨gb128, 13, none⟩ = some (.int .i64 a0_13) := (blk_cell BK128.out 13).trans rfl; have hcz72_14 : w71.cell? ⟨gb128, 14, none⟩ = some (.bool a0_14) := (blk_cell BK128.out 14).trans rfl; have hcz72_15 : w71.cell? ⟨gb128, 15, none⟩ = some (.slice A0_15 l0_15.length c0_15) := (blk_cell BK128.out 15).trans rfl; have hcz72_16 : w71.cell? ⟨gb128, 16, none⟩ = some (.slice A0_16 l0_16.length c0_16) := (blk_cell BK128.out 16).trans rfl; have hcz72_17 : w71.cell? ⟨gb128, 17, none⟩ = some (.string a0_17) := (blk_cell BK128.out 17).trans rfl; have hcz72_18 : w71.cell? ⟨gb128, 18, none⟩ = some (.slice A0_18 l0_18.length c0_18) := (blk_cell BK128.out 18).trans rfl; have hcz72_19 : w71.cell? ⟨gb128, 19, none⟩ = some (.slice A0_19 l0_19.length c0_19) := (blk_cell BK128.out 19).trans rfl; have hcz72_20 : w71.cell? ⟨gb128, 20, none⟩ = some (.string a0_20) := (blk_cell BK128.out 20).trans rfl; have hcz72_21 : w71.cell? ⟨gb128, 21, none⟩ = some (.bool a0_21) := (blk_cell BK128.out 21).trans rfl; have hcz72_22 : w71.cell? ⟨gb128, 22, none⟩ = some (.string a0_22) := (blk_cell BK128.out 22).trans rfl; have hcz72_23 : w71.cell? ⟨gb128, 23, none⟩ = some (.bool a0_23) := (blk_cell BK128.out 23).trans rfl; have hcz72_24 : w71.cell? ⟨gb128, 24, none⟩ = some (.string a0_24) := (blk_cell BK128.out 24).trans rfl; have hcz72_25 : w71.cell? ⟨gb128, 25, none⟩ = some (.string a0_25) := (blk_cell BK128.out 25).trans rfl; have hcz72_26 : w71.cell? ⟨gb128, 26, none⟩ = some (.bool a0_26) := (blk_cell BK128.out 26).trans rfl; have hcz72_27 : w71.cell? ⟨gb128, 27, none⟩ = some (.int .i64 a0_27) := (blk_cell BK128.out 27).trans rfl; have hcz72_28 : w71.cell? ⟨gb128, 28, none⟩ = some (.slice A0_28 l0_28.length c0_28) := (blk_cell BK128.out 28).trans rfl; have hfz72_0 := blk_frozen BK128.out 0; have hfz72_1 := blk_frozen BK128.out 1; have hfz72_2 := blk_frozen BK128.out 2; have hfz72_3 := blk_frozen BK128.out 3; have hfz72_4 := blk_frozen BK128.out 4; have hfz72_5 := blk_frozen BK128.out 5; have hfz72_6 := blk_frozen BK128.out 6; have hfz72_7 := blk_frozen BK128.out 7; have hfz72_8 := blk_frozen BK128.out 8; have hfz72_9 := blk_frozen BK128.out 9; have hfz72_10 := blk_frozen BK128.out 10; have hfz72_11 := blk_frozen BK128.out 11; have hfz72_12 := blk_frozen BK128.out 12; have hfz72_13 := blk_frozen BK128.out 13; have hfz72_14 := blk_frozen BK128.out 14; have hfz72_15 := blk_frozen BK128.out 15; have hfz72_16 := blk_frozen BK128.out 16; have hfz72_17 := blk_frozen BK128.out 17; have hfz72_18 := blk_frozen BK128.out 18; have hfz72_19 := blk_frozen BK128.out 19; have hfz72_20 := blk_frozen BK128.out 20; have hfz72_21 := blk_frozen BK128.out 21; have hfz72_22 := blk_frozen BK128.out 22; have hfz72_23 := blk_frozen BK128.out 23; have hfz72_24 := blk_frozen BK128.out 24; have hfz72_25 := blk_frozen BK128.out 25; have hfz72_26 := blk_frozen BK128.out 26; have hfz72_27 := blk_frozen BK128.out 27; have hfz72_28 := blk_frozen BK128.out 28; have hcz73_0 : w71.cell? ⟨gb129, 0, none⟩ = some (.int .i64 a1_0) := (blk_cell BK129.out 0).trans rfl; have hcz73_1 : w71.cell? ⟨gb129, 1, none⟩ = some (.int .i64 a1_1) := (blk_cell BK129.out 1).trans rfl; have hcz73_2 : w71.cell? ⟨gb129, 2, none⟩ = some (.int .i64 a1_2) := (blk_cell BK129.out 2).trans rfl; have hcz73_3 : w71.cell? ⟨gb129, 3, none⟩ = some (.string a1_3) := (blk_cell BK129.out 3).trans rfl; have hcz73_4 : w71.cell? ⟨gb129, 4, none⟩ = some (.int .i64 a1_4) := (blk_cell BK129.out 4).trans rfl; have hcz73_5 : w71.cell? ⟨gb129, 5, none⟩ = some (.string a1_5) := (blk_cell BK129.out 5).trans rfl; have hcz73_6 : w71.cell? ⟨gb129, 6, none⟩ = some (.string a1_6) := (blk_cell BK129.out 6).trans rfl; have hcz73_7 : w71.cell? ⟨gb129, 7, none⟩ = some (.string a1_7) := (blk_cell BK129.out 7).trans rfl; have hcz73_8 : w71.cell? ⟨gb129, 8, none⟩ = some (.bool a1_8) := (blk_cell BK129.out 8).trans rfl; have hcz73_9 : w71.cell? ⟨gb129, 9, none⟩ = some (.string a1_9) := (blk_cell BK129.out 9).trans rfl; have hcz73_10 : w71.cell? ⟨gb129, 10, none⟩ = some (.int .i64 a1_10) := (blk_cell BK129.out 10).trans rfl; have hcz73_11 : w71.cell? ⟨gb129, 11, none⟩ = some (.int .i64 a1_11) := (blk_cell BK129.out 11).trans rfl; have hcz73_12 : w71.cell? ⟨gb129, 12, none⟩ = some (.int .i64 a1_12) := (blk_cell BK129.out 12).trans rfl; have hcz73_13 : w71.cell? ⟨gb129, 13, none⟩ = some (.int .i64 a1_13) := (blk_cell BK129.out 13).trans rfl; have hcz73_14 : w71.cell? ⟨gb129, 14, none⟩ = some (.bool a1_14) := (blk_cell BK129.out 14).trans rfl; have hcz73_15 : w71.cell? ⟨gb129, 15, none⟩ = some (.slice A1_15 l1_15.length c1_15) := (blk_cell BK129.out 15).trans rfl; have hcz73_16 : w71.cell? ⟨gb129, 16, none⟩ = some (.slice A1_16 l1_16.length c1_16) := (blk_cell BK129.out 16).trans rfl; have hcz73_17 : w71.cell? ⟨gb129, 17, none⟩ = some (.string a1_17) := (blk_cell BK129.out 17).trans rfl; have hcz73_18 : w71.cell? ⟨gb129, 18, none⟩ = some (.slice A1_18 l1_18.length c1_18) := (blk_cell BK129.out 18).trans rfl; have hcz73_19 : w71.cell? ⟨gb129, 19, none⟩ = some (.slice A1_19 l1_19.length c1_19) := (blk_cell BK129.out 19).trans rfl; have hcz73_20 : w71.cell? ⟨gb129, 20, none⟩ = some (.string a1_20) := (blk_cell BK129.out 20).trans rfl; have hcz73_21 : w71.cell? ⟨gb129, 21, none⟩ = some (.bool a1_21) := (blk_cell BK129.out 21).trans rfl; have hcz73_22 : w71.cell? ⟨gb129, 22, none⟩ = some (.string a1_22) := (blk_cell BK129.out 22).trans rfl; have hcz73_23 : w71.cell? ⟨gb129, 23, none⟩ = some (.bool a1_23) := (blk_cell BK129.out 23).trans rfl; have hcz73_24 : w71.cell? ⟨gb129, 24, none⟩ = some (.string a1_24) := (blk_cell BK129.out 24).trans rfl; have hcz73_25 : w71.cell? ⟨gb129, 25, none⟩ = some (.string a1_25) := (blk_cell BK129.out 25).trans rfl; have hcz73_26 : w71.cell? ⟨gb129, 26, none⟩ = some (.bool a1_26) := (blk_cell BK129.out 26).trans rfl; have hcz73_27 : w71.cell? ⟨gb129, 27, none⟩ = some (.int .i64 a1_27) := (blk_cell BK129.out 27).trans rfl; have hcz73_28 : w71.cell? ⟨gb129, 28, none⟩ = some (.slice A1_28 l1_28.length c1_28) := (blk_cell BK129.out 28).trans rfl; have hfz73_0 := blk_frozen BK129.out 0; have hfz73_1 := blk_frozen BK129.out 1; have hfz73_2 := blk_frozen BK129.out 2; have hfz73_3 := blk_frozen BK129.out 3; have hfz73_4 := blk_frozen BK129.out 4; have hfz73_5 := blk_frozen BK129.out 5; have hfz73_6 := blk_frozen BK129.out 6; have hfz73_7 := blk_frozen BK129.out 7; have hfz73_8 := blk_frozen BK129.out 8; have hfz73_9 := blk_frozen BK129.out 9; have hfz73_10 := blk_frozen BK129.out 10; have hfz73_11 := blk_frozen BK129.out 11; have hfz73_12 := blk_frozen BK129.out 12; have hfz73_13 := blk_frozen BK129.out 13; have hfz73_14 := blk_frozen BK129.out 14; have hfz73_15 := blk_frozen BK129.out 15; have hfz73_16 := blk_frozen BK129.out 16; have hfz73_17 := blk_frozen BK129.out 17; have hfz73_18 := blk_frozen BK129.out 18; have hfz73_19 := blk_frozen BK129.out 19; have hfz73_20 := blk_frozen BK129.out 20; have hfz73_21 := blk_frozen BK129.out 21; have hfz73_22 := blk_frozen BK129.out 22; have hfz73_23 := blk_frozen BK129.out 23; have hfz73_24 := blk_frozen BK129.out 24; have hfz73_25 := blk_frozen BK129.out 25; have hfz73_26 := blk_frozen BK129.out 26; have hfz73_27 := blk_frozen BK129.out 27; have hfz73_28 := blk_frozen BK129.out 28) | (go_at_call 26; (with_reducible refine (rosterref13_sameChanges.calls kj29 _ _ l0_18 _ _ l1_18 true _ ?side1 ?side2 ?side3 ?side4 A57.out).mono ?_); (case side1 => repeat (first | exact (Kd.C_below HR0_18.out HB.out) | exact (Kd.C_below (Aside0.out (by assumption)) HB.out) | (with_reducible refine Kd.C_alloc ?_ _) | (with_reducible refine Kd.C_drewN ?_ _) | (with_reducible refine Kd.C_drew ?_))); (case side2 => first | exact HC0_18.out | exact Aside0.out (by assumption)); (case side3 => repeat (first | exact (Kd.C_below HR1_18.out HB.out) | exact (Kd.C_below (Aside0.out (by assumption)) HB.out) | (with_reducible refine Kd.C_alloc ?_ _) | (with_reducible refine Kd.C_drewN ?_ _) | (with_reducible refine Kd.C_drew ?_))); (case side4 => first | exact HC1_18.out | exact Aside0.out (by assumption)); rintro e w' ⟨rfl, ⟨nd, rfl⟩⟩) | (go_at_call 18; (with_reducible refine (rosterref13_sameAttrs.calls kj29 _ _ l0_19 _ _ l1_19 false _ ?side1 ?side2 ?side3 ?side4 A59.out).mono ?_); (case side1 => repeat (first | exact (Kd.C_below HR0_19.out (by repeat (first | (with_reducible first | exact HB.out | apply below_alloc | apply pw_below_drewN | apply below_drew1 | refine below_set ?_ GE128.out | refine below_set ?_ GE129.out) | exact HB.out))) | (with_reducible refine Kd.C_alloc ?_ _) | (with_reducible refine Kd.C_drewN ?_ _) | (with_reducible refine Kd.C_drew ?_))); (case side2 => first | exact HC0_19.out | exact Aside0.out (by assumption)); (case side3 => repeat (first | exact (Kd.C_below HR1_19.out (by repeat (first | (with_reducible first | exact HB.out | apply below_alloc | apply pw_below_drewN | apply below_drew1 | refine below_set ?_ GE128.out | refine below_set ?_ GE129.out) | exact HB.out))) | (with_reducible refine Kd.C_alloc ?_ _) | (with_reducible refine Kd.C_drewN ?_ _) | (with_reducible refine Kd.C_drew ?_))); (case side4 => first | exact HC1_19.out | exact Aside0.out (by assumption)); rintro e w' ⟨rfl, ⟨nd, rfl⟩⟩))
          go_ret
          exact ⟨by first | rfl | (simp [isEmpty_ne_]; done) | (simp [*, errW_none, errW_some] <;> rfl), by repeat (first | (with_reducible first | exact HB.out | apply below_alloc | apply pw_below_drewN | apply below_drew1 | refine below_set ?_ GE128.out | refine below_set ?_ GE129.out) | exact HB.out)⟩
        ·replace c58 := Bool.eq_false_iff.mpr c58
         subst c58
         have H1 : (some false) = some r := by rw [if_neg (show ¬ (false = true) by decide)] at H; exact H
         clear H
         have H := H1
         clear H1
         obtain rfl := Option.some.inj H
         have hnb74 := NB128_129.out
         have hnc74 := NB129_128.out
         have hcz75_0 : wc.cell? ⟨gb128, 0, none⟩ = some (.int .i64 a0_0) := (blk_cell BK128.out 0).trans rfl
         have hcz75_1 : wc.cell? ⟨gb128, 1, none⟩ = some (.int .i64 a0_1) := (blk_cell BK128.out 1).trans rfl
         have hcz75_2 : wc.cell? ⟨gb128, 2, none⟩ = some (.int .i64 a0_2) := (blk_cell BK128.out 2).trans rfl
         have hcz75_3 : wc.cell? ⟨gb128, 3, none⟩ = some (.string a0_3) := (blk_cell BK128.out 3).trans rfl
         have hcz75_4 : wc.cell? ⟨gb128, 4, none⟩ = some (.int .i64 a0_4) := (blk_cell BK128.out 4).trans rfl
         have hcz75_5 : wc.cell? ⟨gb128, 5, none⟩ = some (.string a0_5) := (blk_cell BK128.out 5).trans rfl
         have hcz75_6 : wc.cell? ⟨gb128, 6, none⟩ = some (.string a0_6) := (blk_cell BK128.out 6).trans rfl
         have hcz75_7 : wc.cell? ⟨gb128, 7, none⟩ = some (.string a0_7) := (blk_cell BK128.out 7).trans rfl
         have hcz75_8 : wc.cell? ⟨gb128, 8, none⟩ = some (.bool a0_8) := (blk_cell BK128.out 8).trans rfl
         have hcz75_9 : wc.cell? ⟨gb128, 9, none⟩ = some (.string a0_9) := (blk_cell BK128.out 9).trans rfl
         have hcz75_10 : wc.cell? ⟨gb128, 10, none⟩ = some (.int .i64 a0_10) := (blk_cell BK128.out 10).trans rfl
         have hcz75_11 : wc.cell? ⟨gb128, 11, none⟩ = some (.int .i64 a0_11) := (blk_cell BK128.out 11).trans rfl
         have hcz75_12 : wc.cell? ⟨gb128, 12, none⟩ = some (.int .i64 a0_12) := (blk_cell BK128.out 12).trans rfl
         have hcz75_13 : wc.cell? ⟨gb128, 13, none⟩ = some (.int .i64 a0_13) := (blk_cell BK128.out 13).trans rfl
         have hcz75_14 : wc.cell? ⟨gb128, 14, none⟩ = some (.bool a0_14) := (blk_cell BK128.out 14).trans rfl
         have hcz75_15 : wc.cell? ⟨gb128, 15, none⟩ = some (.slice A0_15 l0_15.length c0_15) := (blk_cell BK128.out 15).trans rfl
         have hcz75_16 : wc.cell? ⟨gb128, 16, none⟩ = some (.slice A0_16 l0_16.length c0_16) := (blk_cell BK128.out 16).trans rfl
         have hcz75_17 : wc.cell? ⟨gb128, 17, none⟩ = some (.string a0_17) := (blk_cell BK128.out 17).trans rfl
         have hcz75_18 : wc.cell? ⟨gb128, 18, none⟩ = some (.slice A0_18 l0_18.length c0_18) := (blk_cell BK128.out 18).trans rfl
         have hcz75_19 : wc.cell? ⟨gb128, 19, none⟩ = some (.slice A0_19 l0_19.length c0_19) := (blk_cell BK128.out 19).trans rfl
         have hcz75_20 : wc.cell? ⟨gb128, 20, none⟩ = some (.string a0_20) := (blk_cell BK128.out 20).trans rfl
         have hcz75_21 : wc.cell? ⟨gb128, 21, none⟩ = some (.bool a0_21) := (blk_cell BK128.out 21).trans rfl
         have hcz75_22 : wc.cell? ⟨gb128, 22, none⟩ = some (.string a0_22) := (blk_cell BK128.out 22).trans rfl
         have hcz75_23 : wc.cell? ⟨gb128, 23, none⟩ = some (.bool a0_23) := (blk_cell BK128.out 23).trans rfl
         have hcz75_24 : wc.cell? ⟨gb128, 24, none⟩ = some (.string a0_24) := (blk_cell BK128.out 24).trans rfl
         have hcz75_25 : wc.cell? ⟨gb128, 25, none⟩ = some (.string a0_25) := (blk_cell BK128.out 25).trans rfl
         have hcz75_26 : wc.cell? ⟨gb128, 26, none⟩ = some (.bool a0_26) := (blk_cell BK128.out 26).trans rfl
         have hcz75_27 : wc.cell? ⟨gb128, 27, none⟩ = some (.int .i64 a0_27) := (blk_cell BK128.out 27).trans rfl
         have hcz75_28 : wc.cell? ⟨gb128, 28, none⟩ = some (.slice A0_28 l0_28.length c0_28) := (blk_cell BK128.out 28).trans rfl
         have hfz75_0 := blk_frozen BK128.out 0
         have hfz75_1 := blk_frozen BK128.out 1
         have hfz75_2 := blk_frozen BK128.out 2
         have hfz75_3 := blk_frozen BK128.out 3
         have hfz75_4 := blk_frozen BK128.out 4
         have hfz75_5 := blk_frozen BK128.out 5
         have hfz75_6 := blk_frozen BK128.out 6
         have hfz75_7 := blk_frozen BK128.out 7
         have hfz75_8 := blk_frozen BK128.out 8
         have hfz75_9 := blk_frozen BK128.out 9
         have hfz75_10 := blk_frozen BK128.out 10
         have hfz75_11 := blk_frozen BK128.out 11
         have hfz75_12 := blk_frozen BK128.out 12
         have hfz75_13 := blk_frozen BK128.out 13
         have hfz75_14 := blk_frozen BK128.out 14
         have hfz75_15 := blk_frozen BK128.out 15
         have hfz75_16 := blk_frozen BK128.out 16
         have hfz75_17 := blk_frozen BK128.out 17
         have hfz75_18 := blk_frozen BK128.out 18
         have hfz75_19 := blk_frozen BK128.out 19
         have hfz75_20 := blk_frozen BK128.out 20
         have hfz75_21 := blk_frozen BK128.out 21
         have hfz75_22 := blk_frozen BK128.out 22
         have hfz75_23 := blk_frozen BK128.out 23
         have hfz75_24 := blk_frozen BK128.out 24
         have hfz75_25 := blk_frozen BK128.out 25
         have hfz75_26 := blk_frozen BK128.out 26
         have hfz75_27 := blk_frozen BK128.out 27
         have hfz75_28 := blk_frozen BK128.out 28
         have hcz76_0 : wc.cell? ⟨gb129, 0, none⟩ = some (.int .i64 a1_0) := (blk_cell BK129.out 0).trans rfl
         have hcz76_1 : wc.cell? ⟨gb129, 1, none⟩ = some (.int .i64 a1_1) := (blk_cell BK129.out 1).trans rfl
         have hcz76_2 : wc.cell? ⟨gb129, 2, none⟩ = some (.int .i64 a1_2) := (blk_cell BK129.out 2).trans rfl
         have hcz76_3 : wc.cell? ⟨gb129, 3, none⟩ = some (.string a1_3) := (blk_cell BK129.out 3).trans rfl
         have hcz76_4 : wc.cell? ⟨gb129, 4, none⟩ = some (.int .i64 a1_4) := (blk_cell BK129.out 4).trans rfl
         have hcz76_5 : wc.cell? ⟨gb129, 5, none⟩ = some (.string a1_5) := (blk_cell BK129.out 5).trans rfl
         have hcz76_6 : wc.cell? ⟨gb129, 6, none⟩ = some (.string a1_6) := (blk_cell BK129.out 6).trans rfl
         have hcz76_7 : wc.cell? ⟨gb129, 7, none⟩ = some (.string a1_7) := (blk_cell BK129.out 7).trans rfl
         have hcz76_8 : wc.cell? ⟨gb129, 8, none⟩ = some (.bool a1_8) := (blk_cell BK129.out 8).trans rfl
         have hcz76_9 : wc.cell? ⟨gb129, 9, none⟩ = some (.string a1_9) := (blk_cell BK129.out 9).trans rfl
         have hcz76_10 : wc.cell? ⟨gb129, 10, none⟩ = some (.int .i64 a1_10) := (blk_cell BK129.out 10).trans rfl
         have hcz76_11 : wc.cell? ⟨gb129, 11, none⟩ = some (.int .i64 a1_11) := (blk_cell BK129.out 11).trans rfl
         have hcz76_12 : wc.cell? ⟨gb129, 12, none⟩ = some (.int .i64 a1_12) := (blk_cell BK129.out 12).trans rfl
         have hcz76_13 : wc.cell? ⟨gb129, 13, none⟩ = some (.int .i64 a1_13) := (blk_cell BK129.out 13).trans rfl
         have hcz76_14 : wc.cell? ⟨gb129, 14, none⟩ = some (.bool a1_14) := (blk_cell BK129.out 14).trans rfl
         have hcz76_15 : wc.cell? ⟨gb129, 15, none⟩ = some (.slice A1_15 l1_15.length c1_15) := (blk_cell BK129.out 15).trans rfl
         have hcz76_16 : wc.cell? ⟨gb129, 16, none⟩ = some (.slice A1_16 l1_16.length c1_16) := (blk_cell BK129.out 16).trans rfl
         have hcz76_17 : wc.cell? ⟨gb129, 17, none⟩ = some (.string a1_17) := (blk_cell BK129.out 17).trans rfl
         have hcz76_18 : wc.cell? ⟨gb129, 18, none⟩ = some (.slice A1_18 l1_18.length c1_18) := (blk_cell BK129.out 18).trans rfl
         have hcz76_19 : wc.cell? ⟨gb129, 19, none⟩ = some (.slice A1_19 l1_19.length c1_19) := (blk_cell BK129.out 19).trans rfl
         have hcz76_20 : wc.cell? ⟨gb129, 20, none⟩ = some (.string a1_20) := (blk_cell BK129.out 20).trans rfl
         have hcz76_21 : wc.cell? ⟨gb129, 21, none⟩ = some (.bool a1_21) := (blk_cell BK129.out 21).trans rfl
         have hcz76_22 : wc.cell? ⟨gb129, 22, none⟩ = some (.string a1_22) := (blk_cell BK129.out 22).trans rfl
         have hcz76_23 : wc.cell? ⟨gb129, 23, none⟩ = some (.bool a1_23) := (blk_cell BK129.out 23).trans rfl
         have hcz76_24 : wc.cell? ⟨gb129, 24, none⟩ = some (.string a1_24) := (blk_cell BK129.out 24).trans rfl
         have hcz76_25 : wc.cell? ⟨gb129, 25, none⟩ = some (.string a1_25) := (blk_cell BK129.out 25).trans rfl
         have hcz76_26 : wc.cell? ⟨gb129, 26, none⟩ = some (.bool a1_26) := (blk_cell BK129.out 26).trans rfl
         have hcz76_27 : wc.cell? ⟨gb129, 27, none⟩ = some (.int .i64 a1_27) := (blk_cell BK129.out 27).trans rfl
         have hcz76_28 : wc.cell? ⟨gb129, 28, none⟩ = some (.slice A1_28 l1_28.length c1_28) := (blk_cell BK129.out 28).trans rfl
         have hfz76_0 := blk_frozen BK129.out 0
         have hfz76_1 := blk_frozen BK129.out 1
         have hfz76_2 := blk_frozen BK129.out 2
         have hfz76_3 := blk_frozen BK129.out 3
         have hfz76_4 := blk_frozen BK129.out 4
         have hfz76_5 := blk_frozen BK129.out 5
         have hfz76_6 := blk_frozen BK129.out 6
         have hfz76_7 := blk_frozen BK129.out 7
         have hfz76_8 := blk_frozen BK129.out 8
         have hfz76_9 := blk_frozen BK129.out 9
         have hfz76_10 := blk_frozen BK129.out 10
         have hfz76_11 := blk_frozen BK129.out 11
         have hfz76_12 := blk_frozen BK129.out 12
         have hfz76_13 := blk_frozen BK129.out 13
         have hfz76_14 := blk_frozen BK129.out 14
         have hfz76_15 := blk_frozen BK129.out 15
         have hfz76_16 := blk_frozen BK129.out 16
         have hfz76_17 := blk_frozen BK129.out 17
         have hfz76_18 := blk_frozen BK129.out 18
         have hfz76_19 := blk_frozen BK129.out 19
         have hfz76_20 := blk_frozen BK129.out 20
         have hfz76_21 := blk_frozen BK129.out 21
         have hfz76_22 := blk_frozen BK129.out 22
         have hfz76_23 := blk_frozen BK129.out 23
         have hfz76_24 := blk_frozen BK129.out 24
         have hfz76_25 := blk_frozen BK129.out 25
         have hfz76_26 := blk_frozen BK129.out 26
         have hfz76_27 := blk_frozen BK129.out 27
         have hfz76_28 := blk_frozen BK129.out 28
         go_wp2_with (first | ((with_reducible refine gate_callee (f := 25) rfl ?_); refine goesL_ (some 89) rfl rfl Tryd.func25 (by kernel_rfl) rfl #[.agg #[.string a0_9, .int .i64 a0_10, .int .i64 a0_11, .int .i64 a0_12, .int .i64 a0_13, .bool a0_14, .slice A0_15 l0_15.length c0_15, .slice A0_16 l0_16.length c0_16], .agg #[.string a1_9, .int .i64 a1_10, .int .i64 a1_11, .int .i64 a1_12, .int .i64 a1_13, .bool a1_14, .slice A1_15 l1_15.length c1_15, .slice A1_16 l1_16.length c1_16]] rfl (by (try simp only [List.map_toArray, List.map_cons, List.map_nil]); first | done | rfl | (simp only [List.length_drop, List.length_take]; rfl) | exact congrArg (fun n_ : Nat => #[Value.slice _ n_ _]) (Eq.trans (Aside0.out (by assumption)) (Eq.symm (Aside0.out (by assumption)))) | exact congrArg (fun n_ : Nat => #[Value.slice _ n_ _, Value.slice _ _ _]) (Eq.trans (Aside0.out (by assumption)) (Eq.symm (Aside0.out (by assumption))))) ?_; (with_reducible refine (rosterref13_sameSearch.calls kj29 a0_9 a0_10 a0_11 a0_12 a0_13 a0_14 _ _ l0_15 _ _ l0_16 a1_9 a1_10 a1_11 a1_12 a1_13 a1_14 _ _ l1_15 _ _ l1_16 true _ ?side1 ?side2 ?side3 ?side4 ?side5 ?side6 ?side7 ?side8 A55.out).mono ?_); (case side1 => repeat (first | exact (Kd.C_below HR0_15.out HB.out) | exact (Kd.C_below (Aside0.out (by assumption)) HB.out) | (with_reducible refine Kd.C_alloc ?_ _) | (with_reducible refine Kd.C_drewN ?_ _) | (with_reducible refine Kd.C_drew ?_))); (case side2 => first | exact HC0_15.out | exact Aside0.out (by assumption)); (case side3 => repeat (first | exact (Kd.C_below HR0_16.out HB.out) | exact (Kd.C_below (Aside0.out (by assumption)) HB.out) | (with_reducible refine Kd.C_alloc ?_ _) | (with_reducible refine Kd.C_drewN ?_ _) | (with_reducible refine Kd.C_drew ?_))); (case side4 => first | exact HC0_16.out | exact Aside0.out (by assumption)); (case side5 => repeat (first | exact (Kd.C_below HR1_15.out HB.out) | exact (Kd.C_below (Aside0.out (by assumption)) HB.out) | (with_reducible refine Kd.C_alloc ?_ _) | (with_reducible refine Kd.C_drewN ?_ _) | (with_reducible refine Kd.C_drew ?_))); (case side6 => first | exact HC1_15.out | exact Aside0.out (by assumption)); (case side7 => repeat (first | exact (Kd.C_below HR1_16.out HB.out) | exact (Kd.C_below (Aside0.out (by assumption)) HB.out) | (with_reducible refine Kd.C_alloc ?_ _) | (with_reducible refine Kd.C_drewN ?_ _) | (with_reducible refine Kd.C_drew ?_))); (case side8 => first | exact HC1_16.out | exact Aside0.out (by assumption)); rintro e w77 ⟨rfl, hb⟩; refine ⟨_, rfl, ?_⟩; have n0_ := Aside0.mk (blk_below (g := gb128) (o := .cells #[.int .i64 a0_0, .int .i64 a0_1, .int .i64 a0_2, .string a0_3, .int .i64 a0_4, .string a0_5, .string a0_6, .string a0_7, .bool a0_8, .string a0_9, .int .i64 a0_10, .int .i64 a0_11, .int .i64 a0_12, .int .i64 a0_13, .bool a0_14, .slice A0_15 l0_15.length c0_15, .slice A0_16 l0_16.length c0_16, .string a0_17, .slice A0_18 l0_18.length c0_18, .slice A0_19 l0_19.length c0_19, .string a0_20, .bool a0_21, .string a0_22, .bool a0_23, .string a0_24, .string a0_25, .bool a0_26, .int .i64 a0_27, .slice A0_28 l0_28.length c0_28] 36 (0, 0)) (by (with_reducible repeat (first | refine blk_drewN ?_ _ | refine blk_drew ?_ | refine blk_alloc ?_ _)); exact BK128.out) hb); have n1_ := Aside0.mk (blk_below (g := gb129) (o := .cells #[.int .i64 a1_0, .int .i64 a1_1, .int .i64 a1_2, .string a1_3, .int .i64 a1_4, .string a1_5, .string a1_6, .string a1_7, .bool a1_8, .string a1_9, .int .i64 a1_10, .int .i64 a1_11, .int .i64 a1_12, .int .i64 a1_13, .bool a1_14, .slice A1_15 l1_15.length c1_15, .slice A1_16 l1_16.length c1_16, .string a1_17, .slice A1_18 l1_18.length c1_18, .slice A1_19 l1_19.length c1_19, .string a1_20, .bool a1_21, .string a1_22, .bool a1_23, .string a1_24, .string a1_25, .bool a1_26, .int .i64 a1_27, .slice A1_28 l1_28.length c1_28] 36 (0, 0)) (by (with_reducible repeat (first | refine blk_drewN ?_ _ | refine blk_drew ?_ | refine blk_alloc ?_ _)); exact BK129.out) hb); have n2_ := Aside0.mk (below_step (by repeat (first | (with_reducible first | exact HB.out | apply below_alloc | apply pw_below_drewN | apply below_drew1 | refine below_set ?_ GE128.out | refine below_set ?_ GE129.out) | exact HB.out)) hb); clear BK128; clear BK129; clear HB; have BK128 := n0_; have BK129 := n1_; have HB := n2_; clear n0_ n1_ n2_; (try clear hb); (try clear hb2); (try clear hk); (try clear hi); have hcz78_0 : w77.cell? ⟨gb128, 0, none⟩ = some (.int .i64 a0_0) := (blk_cell BK128.out 0).trans rfl; have hcz78_1 : w77.cell? ⟨gb128, 1, none⟩ = some (.int .i64 a0_1) := (blk_cell BK128.out 1).trans rfl; have hcz78_2 : w77.cell? ⟨gb128, 2, none⟩ = some (.int .i64 a0_2) := (blk_cell BK128.out 2).trans rfl; have hcz78_3 : w77.cell? ⟨gb128, 3, none⟩ = some (.string a0_3) := (blk_cell BK128.out 3).trans rfl; have hcz78_4 : w77.cell? ⟨gb128, 4, none⟩ = some (.int .i64 a0_4) := (blk_cell BK128.out 4).trans rfl; have hcz78_5 : w77.cell? ⟨gb128, 5, none⟩ = some (.string a0_5) := (blk_cell BK128.out 5).trans rfl; have hcz78_6 : w77.cell? ⟨gb128, 6, none⟩ = some (.string a0_6) := (blk_cell BK128.out 6).trans rfl; have hcz78_7 : w77.cell? ⟨gb128, 7, none⟩ = some (.string a0_7) := (blk_cell BK128.out 7).trans rfl; have hcz78_8 : w77.cell? ⟨gb128, 8, none⟩ = some (.bool a0_8) := (blk_cell BK128.out 8).trans rfl; have hcz78_9 : w77.cell? ⟨gb128, 9, none⟩ = some (.string a0_9) := (blk_cell BK128.out 9).trans rfl; have hcz78_10 : w77.cell? ⟨gb128, 10, none⟩ = some (.int .i64 a0_10) := (blk_cell BK128.out 10).trans rfl; have hcz78_11 : w77.cell? ⟨gb128, 11, none⟩ = some (.int .i64 a0_11) := (blk_cell BK128.out 11).trans rfl; have hcz78_12 : w77.cell? ⟨gb128, 12, none⟩ = some (.int .i64 a0_12) := (blk_cell BK128.out 12).trans rfl; have hcz78_13 : w77.cell? ⟨gb128, 13, none⟩ = some (.int .i64 a0_13) := (blk_cell BK128.out 13).trans rfl; have hcz78_14 : w77.cell? ⟨gb128, 14, none⟩ = some (.bool a0_14) := (blk_cell BK128.out 14).trans rfl; have hcz78_15 : w77.cell? ⟨gb128, 15, none⟩ = some (.slice A0_15 l0_15.length c0_15) := (blk_cell BK128.out 15).trans rfl; have hcz78_16 : w77.cell? ⟨gb128, 16, none⟩ = some (.slice A0_16 l0_16.length c0_16) := (blk_cell BK128.out 16).trans rfl; have hcz78_17 : w77.cell? ⟨gb128, 17, none⟩ = some (.string a0_17) := (blk_cell BK128.out 17).trans rfl; have hcz78_18 : w77.cell? ⟨gb128, 18, none⟩ = some (.slice A0_18 l0_18.length c0_18) := (blk_cell BK128.out 18).trans rfl; have hcz78_19 : w77.cell? ⟨gb128, 19, none⟩ = some (.slice A0_19 l0_19.length c0_19) := (blk_cell BK128.out 19).trans rfl; have hcz78_20 : w77.cell? ⟨gb128, 20, none⟩ = some (.string a0_20) := (blk_cell BK128.out 20).trans rfl; have hcz78_21 : w77.cell? ⟨gb128, 21, none⟩ = some (.bool a0_21) := (blk_cell BK128.out 21).trans rfl; have hcz78_22 : w77.cell? ⟨gb128, 22, none⟩ = some (.string a0_22) := (blk_cell BK128.out 22).trans rfl; have hcz78_23 : w77.cell? ⟨gb128, 23, none⟩ = some (.bool a0_23) := (blk_cell BK128.out 23).trans rfl; have hcz78_24 : w77.cell? ⟨gb128, 24, none⟩ = some (.string a0_24) := (blk_cell BK128.out 24).trans rfl; have hcz78_25 : w77.cell? ⟨gb128, 25, none⟩ = some (.string a0_25) := (blk_cell BK128.out 25).trans rfl; have hcz78_26 : w77.cell? ⟨gb128, 26, none⟩ = some (.bool a0_26) := (blk_cell BK128.out 26).trans rfl; have hcz78_27 : w77.cell? ⟨gb128, 27, none⟩ = some (.int .i64 a0_27) := (blk_cell BK128.out 27).trans rfl; have hcz78_28 : w77.cell? ⟨gb128, 28, none⟩ = some (.slice A0_28 l0_28.length c0_28) := (blk_cell BK128.out 28).trans rfl; have hfz78_0 := blk_frozen BK128.out 0; have hfz78_1 := blk_frozen BK128.out 1; have hfz78_2 := blk_frozen BK128.out 2; have hfz78_3 := blk_frozen BK128.out 3; have hfz78_4 := blk_frozen BK128.out 4; have hfz78_5 := blk_frozen BK128.out 5; have hfz78_6 := blk_frozen BK128.out 6; have hfz78_7 := blk_frozen BK128.out 7; have hfz78_8 := blk_frozen BK128.out 8; have hfz78_9 := blk_frozen BK128.out 9; have hfz78_10 := blk_frozen BK128.out 10; have hfz78_11 := blk_frozen BK128.out 11; have hfz78_12 := blk_frozen BK128.out 12; have hfz78_13 := blk_frozen BK128.out 13; have hfz78_14 := blk_frozen BK128.out 14; have hfz78_15 := blk_frozen BK128.out 15; have hfz78_16 := blk_frozen BK128.out 16; have hfz78_17 := blk_frozen BK128.out 17; have hfz78_18 := blk_frozen BK128.out 18; have hfz78_19 := blk_frozen BK128.out 19; have hfz78_20 := blk_frozen BK128.out 20; have hfz78_21 := blk_frozen BK128.out 21; have hfz78_22 := blk_frozen BK128.out 22; have hfz78_23 := blk_frozen BK128.out 23; have hfz78_24 := blk_frozen BK128.out 24; have hfz78_25 := blk_frozen BK128.out 25; have hfz78_26 := blk_frozen BK128.out 26; have hfz78_27 := blk_frozen BK128.out 27; have hfz78_28 := blk_frozen BK128.out 28; have hcz79_0 : w77.cell? ⟨gb129, 0, none⟩ = some (.int .i64 a1_0) := (blk_cell BK129.out 0).trans rfl; have hcz79_1 : w77.cell? ⟨gb129, 1, none⟩ = some (.int .i64 a1_1) := (blk_cell BK129.out 1).trans rfl; have hcz79_2 : w77.cell? ⟨gb129, 2, none⟩ = some (.int .i64 a1_2) := (blk_cell BK129.out 2).trans rfl; have hcz79_3 : w77.cell? ⟨gb129, 3, none⟩ = some (.string a1_3) := (blk_cell BK129.out 3).trans rfl; have hcz79_4 : w77.cell? ⟨gb129, 4, none⟩ = some (.int .i64 a1_4) := (blk_cell BK129.out 4).trans rfl; have hcz79_5 : w77.cell? ⟨gb129, 5, none⟩ = some (.string a1_5) := (blk_cell BK129.out 5).trans rfl; have hcz79_6 : w77.cell? ⟨gb129, 6, none⟩ = some (.string a1_6) := (blk_cell BK129.out 6).trans rfl; have hcz79_7 : w77.cell? ⟨gb129, 7, none⟩ = some (.string a1_7) := (blk_cell BK129.out 7).trans rfl; have hcz79_8 : w77.cell? ⟨gb129, 8, none⟩ = some (.bool a1_8) := (blk_cell BK129.out 8).trans rfl; have hcz79_9 : w77.cell? ⟨gb129, 9, none⟩ = some (.string a1_9) := (blk_cell BK129.out 9).trans rfl; have hcz79_10 : w77.cell? ⟨gb129, 10, none⟩ = some (.int .i64 a1_10) := (blk_cell BK129.out 10).trans rfl; have hcz79_11 : w77.cell? ⟨gb129, 11, none⟩ = some (.int .i64 a1_11) := (blk_cell BK129.out 11).trans rfl; have hcz79_12 : w77.cell? ⟨gb129, 12, none⟩ = some (.int .i64 a1_12) := (blk_cell BK129.out 12).trans rfl; have hcz79_13 : w77.cell? ⟨gb129, 13, none⟩ = some (.int .i64 a1_13) := (blk_cell BK129.out 13).trans rfl; have hcz79_14 : w77.cell? ⟨gb129, 14, none⟩ = some (.bool a1_14) := (blk_cell BK129.out 14).trans rfl; have hcz79_15 : w77.cell? ⟨gb129, 15, none⟩ = some (.slice A1_15 l1_15.length c1_15) := (blk_cell BK129.out 15).trans rfl; have hcz79_16 : w77.cell? ⟨gb129, 16, none⟩ = some (.slice A1_16 l1_16.length c1_16) := (blk_cell BK129.out 16).trans rfl; have hcz79_17 : w77.cell? ⟨gb129, 17, none⟩ = some (.string a1_17) := (blk_cell BK129.out 17).trans rfl; have hcz79_18 : w77.cell? ⟨gb129, 18, none⟩ = some (.slice A1_18 l1_18.length c1_18) := (blk_cell BK129.out 18).trans rfl; have hcz79_19 : w77.cell? ⟨gb129, 19, none⟩ = some (.slice A1_19 l1_19.length c1_19) := (blk_cell BK129.out 19).trans rfl; have hcz79_20 : w77.cell? ⟨gb129, 20, none⟩ = some (.string a1_20) := (blk_cell BK129.out 20).trans rfl; have hcz79_21 : w77.cell? ⟨gb129, 21, none⟩ = some (.bool a1_21) := (blk_cell BK129.out 21).trans rfl; have hcz79_22 : w77.cell? ⟨gb129, 22, none⟩ = some (.string a1_22) := (blk_cell BK129.out 22).trans rfl; have hcz79_23 : w77.cell? ⟨gb129, 23, none⟩ = some (.bool a1_23) := (blk_cell BK129.out 23).trans rfl; have hcz79_24 : w77.cell? ⟨gb129, 24, none⟩ = some (.string a1_24) := (blk_cell BK129.out 24).trans rfl; have hcz79_25 : w77.cell? ⟨gb129, 25, none⟩ = some (.string a1_25) := (blk_cell BK129.out 25).trans rfl; have hcz79_26 : w77.cell? ⟨gb129, 26, none⟩ = some (.bool a1_26) := (blk_cell BK129.out 26).trans rfl; have hcz79_27 : w77.cell? ⟨gb129, 27, none⟩ = some (.int .i64 a1_27) := (blk_cell BK129.out 27).trans rfl; have hcz79_28 : w77.cell? ⟨gb129, 28, none⟩ = some (.slice A1_28 l1_28.length c1_28) := (blk_cell BK129.out 28).trans rfl; have hfz79_0 := blk_frozen BK129.out 0; have hfz79_1 := blk_frozen BK129.out 1; have hfz79_2 := blk_frozen BK129.out 2; have hfz79_3 := blk_frozen BK129.out 3; have hfz79_4 := blk_frozen BK129.out 4; have hfz79_5 := blk_frozen BK129.out 5; have hfz79_6 := blk_frozen BK129.out 6; have hfz79_7 := blk_frozen BK129.out 7; have hfz79_8 := blk_frozen BK129.out 8; have hfz79_9 := blk_frozen BK129.out 9; have hfz79_10 := blk_frozen BK129.out 10; have hfz79_11 := blk_frozen BK129.out 11; have hfz79_12 := blk_frozen BK129.out 12; have hfz79_13 := blk_frozen BK129.out 13; have hfz79_14 := blk_frozen BK129.out 14; have hfz79_15 := blk_frozen BK129.out 15; have hfz79_16 := blk_frozen BK129.out 16; have hfz79_17 := blk_frozen BK129.out 17; have hfz79_18 := blk_frozen BK129.out 18; have hfz79_19 := blk_frozen BK129.out 19; have hfz79_20 := blk_frozen BK129.out 20; have hfz79_21 := blk_frozen BK129.out 21; have hfz79_22 := blk_frozen BK129.out 22; have hfz79_23 := blk_frozen BK129.out 23; have hfz79_24 := blk_frozen BK129.out 24; have hfz79_25 := blk_frozen BK129.out 25; have hfz79_26 := blk_frozen BK129.out 26; have hfz79_27 := blk_frozen BK129.out 27; have hfz79_28 := blk_frozen BK129.out 28) | (go_at_call 26; (with_reducible refine (rosterref13_sameChanges.calls kj29 _ _ l0_18 _ _ l1_18 false _ ?side1 ?side2 ?side3 ?side4 A57.out).mono ?_); (case side1 => repeat (first | exact (Kd.C_below HR0_18.out HB.out) | exact (Kd.C_below (Aside0.out (by assumption)) HB.out) | (with_reducible refine Kd.C_alloc ?_ _) | (with_reducible refine Kd.C_drewN ?_ _) | (with_reducible refine Kd.C_drew ?_))); (case side2 => first | exact HC0_18.out | exact Aside0.out (by assumption)); (case side3 => repeat (first | exact (Kd.C_below HR1_18.out HB.out) | exact (Kd.C_below (Aside0.out (by assumption)) HB.out) | (with_reducible refine Kd.C_alloc ?_ _) | (with_reducible refine Kd.C_drewN ?_ _) | (with_reducible refine Kd.C_drew ?_))); (case side4 => first | exact HC1_18.out | exact Aside0.out (by assumption)); rintro e w' ⟨rfl, ⟨nd, rfl⟩⟩))
         go_ret
         exact ⟨by first | rfl | (simp [isEmpty_ne_]; done) | (simp [*, errW_none, errW_some] <;> rfl), by repeat (first | (with_reducible first | exact HB.out | apply below_alloc | apply pw_below_drewN | apply below_drew1 | refine below_set ?_ GE128.out | refine below_set ?_ GE129.out) | exact HB.out)⟩
       ·replace c56 := Bool.eq_false_iff.mpr c56
        subst c56
        have H1 : (some false) = some r := by rw [if_neg (show ¬ (false = true) by decide)] at H; exact H
        clear H
        have H := H1
        clear H1
        obtain rfl := Option.some.inj H
        have hnb80 := NB128_129.out
        have hnc80 := NB129_128.out
        have hcz81_0 : wc.cell? ⟨gb128, 0, none⟩ = some (.int .i64 a0_0) := (blk_cell BK128.out 0).trans rfl
        have hcz81_1 : wc.cell? ⟨gb128, 1, none⟩ = some (.int .i64 a0_1) := (blk_cell BK128.out 1).trans rfl
        have hcz81_2 : wc.cell? ⟨gb128, 2, none⟩ = some (.int .i64 a0_2) := (blk_cell BK128.out 2).trans rfl
        have hcz81_3 : wc.cell? ⟨gb128, 3, none⟩ = some (.string a0_3) := (blk_cell BK128.out 3).trans rfl
        have hcz81_4 : wc.cell? ⟨gb128, 4, none⟩ = some (.int .i64 a0_4) := (blk_cell BK128.out 4).trans rfl
        have hcz81_5 : wc.cell? ⟨gb128, 5, none⟩ = some (.string a0_5) := (blk_cell BK128.out 5).trans rfl
        have hcz81_6 : wc.cell? ⟨gb128, 6, none⟩ = some (.string a0_6) := (blk_cell BK128.out 6).trans rfl
        have hcz81_7 : wc.cell? ⟨gb128, 7, none⟩ = some (.string a0_7) := (blk_cell BK128.out 7).trans rfl
        have hcz81_8 : wc.cell? ⟨gb128, 8, none⟩ = some (.bool a0_8) := (blk_cell BK128.out 8).trans rfl
        have hcz81_9 : wc.cell? ⟨gb128, 9, none⟩ = some (.string a0_9) := (blk_cell BK128.out 9).trans rfl
        have hcz81_10 : wc.cell? ⟨gb128, 10, none⟩ = some (.int .i64 a0_10) := (blk_cell BK128.out 10).trans rfl
        have hcz81_11 : wc.cell? ⟨gb128, 11, none⟩ = some (.int .i64 a0_11) := (blk_cell BK128.out 11).trans rfl
        have hcz81_12 : wc.cell? ⟨gb128, 12, none⟩ = some (.int .i64 a0_12) := (blk_cell BK128.out 12).trans rfl
        have hcz81_13 : wc.cell? ⟨gb128, 13, none⟩ = some (.int .i64 a0_13) := (blk_cell BK128.out 13).trans rfl
        have hcz81_14 : wc.cell? ⟨gb128, 14, none⟩ = some (.bool a0_14) := (blk_cell BK128.out 14).trans rfl
        have hcz81_15 : wc.cell? ⟨gb128, 15, none⟩ = some (.slice A0_15 l0_15.length c0_15) := (blk_cell BK128.out 15).trans rfl
        have hcz81_16 : wc.cell? ⟨gb128, 16, none⟩ = some (.slice A0_16 l0_16.length c0_16) := (blk_cell BK128.out 16).trans rfl
        have hcz81_17 : wc.cell? ⟨gb128, 17, none⟩ = some (.string a0_17) := (blk_cell BK128.out 17).trans rfl
        have hcz81_18 : wc.cell? ⟨gb128, 18, none⟩ = some (.slice A0_18 l0_18.length c0_18) := (blk_cell BK128.out 18).trans rfl
        have hcz81_19 : wc.cell? ⟨gb128, 19, none⟩ = some (.slice A0_19 l0_19.length c0_19) := (blk_cell BK128.out 19).trans rfl
        have hcz81_20 : wc.cell? ⟨gb128, 20, none⟩ = some (.string a0_20) := (blk_cell BK128.out 20).trans rfl
        have hcz81_21 : wc.cell? ⟨gb128, 21, none⟩ = some (.bool a0_21) := (blk_cell BK128.out 21).trans rfl
        have hcz81_22 : wc.cell? ⟨gb128, 22, none⟩ = some (.string a0_22) := (blk_cell BK128.out 22).trans rfl
        have hcz81_23 : wc.cell? ⟨gb128, 23, none⟩ = some (.bool a0_23) := (blk_cell BK128.out 23).trans rfl
        have hcz81_24 : wc.cell? ⟨gb128, 24, none⟩ = some (.string a0_24) := (blk_cell BK128.out 24).trans rfl
        have hcz81_25 : wc.cell? ⟨gb128, 25, none⟩ = some (.string a0_25) := (blk_cell BK128.out 25).trans rfl
        have hcz81_26 : wc.cell? ⟨gb128, 26, none⟩ = some (.bool a0_26) := (blk_cell BK128.out 26).trans rfl
        have hcz81_27 : wc.cell? ⟨gb128, 27, none⟩ = some (.int .i64 a0_27) := (blk_cell BK128.out 27).trans rfl
        have hcz81_28 : wc.cell? ⟨gb128, 28, none⟩ = some (.slice A0_28 l0_28.length c0_28) := (blk_cell BK128.out 28).trans rfl
        have hfz81_0 := blk_frozen BK128.out 0
        have hfz81_1 := blk_frozen BK128.out 1
        have hfz81_2 := blk_frozen BK128.out 2
        have hfz81_3 := blk_frozen BK128.out 3
        have hfz81_4 := blk_frozen BK128.out 4
        have hfz81_5 := blk_frozen BK128.out 5
        have hfz81_6 := blk_frozen BK128.out 6
        have hfz81_7 := blk_frozen BK128.out 7
        have hfz81_8 := blk_frozen BK128.out 8
        have hfz81_9 := blk_frozen BK128.out 9
        have hfz81_10 := blk_frozen BK128.out 10
        have hfz81_11 := blk_frozen BK128.out 11
        have hfz81_12 := blk_frozen BK128.out 12
        have hfz81_13 := blk_frozen BK128.out 13
        have hfz81_14 := blk_frozen BK128.out 14
        have hfz81_15 := blk_frozen BK128.out 15
        have hfz81_16 := blk_frozen BK128.out 16
        have hfz81_17 := blk_frozen BK128.out 17
        have hfz81_18 := blk_frozen BK128.out 18
        have hfz81_19 := blk_frozen BK128.out 19
        have hfz81_20 := blk_frozen BK128.out 20
        have hfz81_21 := blk_frozen BK128.out 21
        have hfz81_22 := blk_frozen BK128.out 22
        have hfz81_23 := blk_frozen BK128.out 23
        have hfz81_24 := blk_frozen BK128.out 24
        have hfz81_25 := blk_frozen BK128.out 25
        have hfz81_26 := blk_frozen BK128.out 26
        have hfz81_27 := blk_frozen BK128.out 27
        have hfz81_28 := blk_frozen BK128.out 28
        have hcz82_0 : wc.cell? ⟨gb129, 0, none⟩ = some (.int .i64 a1_0) := (blk_cell BK129.out 0).trans rfl
        have hcz82_1 : wc.cell? ⟨gb129, 1, none⟩ = some (.int .i64 a1_1) := (blk_cell BK129.out 1).trans rfl
        have hcz82_2 : wc.cell? ⟨gb129, 2, none⟩ = some (.int .i64 a1_2) := (blk_cell BK129.out 2).trans rfl
        have hcz82_3 : wc.cell? ⟨gb129, 3, none⟩ = some (.string a1_3) := (blk_cell BK129.out 3).trans rfl
        have hcz82_4 : wc.cell? ⟨gb129, 4, none⟩ = some (.int .i64 a1_4) := (blk_cell BK129.out 4).trans rfl
        have hcz82_5 : wc.cell? ⟨gb129, 5, none⟩ = some (.string a1_5) := (blk_cell BK129.out 5).trans rfl
        have hcz82_6 : wc.cell? ⟨gb129, 6, none⟩ = some (.string a1_6) := (blk_cell BK129.out 6).trans rfl
        have hcz82_7 : wc.cell? ⟨gb129, 7, none⟩ = some (.string a1_7) := (blk_cell BK129.out 7).trans rfl
        have hcz82_8 : wc.cell? ⟨gb129, 8, none⟩ = some (.bool a1_8) := (blk_cell BK129.out 8).trans rfl
        have hcz82_9 : wc.cell? ⟨gb129, 9, none⟩ = some (.string a1_9) := (blk_cell BK129.out 9).trans rfl
        have hcz82_10 : wc.cell? ⟨gb129, 10, none⟩ = some (.int .i64 a1_10) := (blk_cell BK129.out 10).trans rfl
        have hcz82_11 : wc.cell? ⟨gb129, 11, none⟩ = some (.int .i64 a1_11) := (blk_cell BK129.out 11).trans rfl
        have hcz82_12 : wc.cell? ⟨gb129, 12, none⟩ = some (.int .i64 a1_12) := (blk_cell BK129.out 12).trans rfl
        have hcz82_13 : wc.cell? ⟨gb129, 13, none⟩ = some (.int .i64 a1_13) := (blk_cell BK129.out 13).trans rfl
        have hcz82_14 : wc.cell? ⟨gb129, 14, none⟩ = some (.bool a1_14) := (blk_cell BK129.out 14).trans rfl
        have hcz82_15 : wc.cell? ⟨gb129, 15, none⟩ = some (.slice A1_15 l1_15.length c1_15) := (blk_cell BK129.out 15).trans rfl
        have hcz82_16 : wc.cell? ⟨gb129, 16, none⟩ = some (.slice A1_16 l1_16.length c1_16) := (blk_cell BK129.out 16).trans rfl
        have hcz82_17 : wc.cell? ⟨gb129, 17, none⟩ = some (.string a1_17) := (blk_cell BK129.out 17).trans rfl
        have hcz82_18 : wc.cell? ⟨gb129, 18, none⟩ = some (.slice A1_18 l1_18.length c1_18) := (blk_cell BK129.out 18).trans rfl
        have hcz82_19 : wc.cell? ⟨gb129, 19, none⟩ = some (.slice A1_19 l1_19.length c1_19) := (blk_cell BK129.out 19).trans rfl
        have hcz82_20 : wc.cell? ⟨gb129, 20, none⟩ = some (.string a1_20) := (blk_cell BK129.out 20).trans rfl
        have hcz82_21 : wc.cell? ⟨gb129, 21, none⟩ = some (.bool a1_21) := (blk_cell BK129.out 21).trans rfl
        have hcz82_22 : wc.cell? ⟨gb129, 22, none⟩ = some (.string a1_22) := (blk_cell BK129.out 22).trans rfl
        have hcz82_23 : wc.cell? ⟨gb129, 23, none⟩ = some (.bool a1_23) := (blk_cell BK129.out 23).trans rfl
        have hcz82_24 : wc.cell? ⟨gb129, 24, none⟩ = some (.string a1_24) := (blk_cell BK129.out 24).trans rfl
        have hcz82_25 : wc.cell? ⟨gb129, 25, none⟩ = some (.string a1_25) := (blk_cell BK129.out 25).trans rfl
        have hcz82_26 : wc.cell? ⟨gb129, 26, none⟩ = some (.bool a1_26) := (blk_cell BK129.out 26).trans rfl
        have hcz82_27 : wc.cell? ⟨gb129, 27, none⟩ = some (.int .i64 a1_27) := (blk_cell BK129.out 27).trans rfl
        have hcz82_28 : wc.cell? ⟨gb129, 28, none⟩ = some (.slice A1_28 l1_28.length c1_28) := (blk_cell BK129.out 28).trans rfl
        have hfz82_0 := blk_frozen BK129.out 0
        have hfz82_1 := blk_frozen BK129.out 1
        have hfz82_2 := blk_frozen BK129.out 2
        have hfz82_3 := blk_frozen BK129.out 3
        have hfz82_4 := blk_frozen BK129.out 4
        have hfz82_5 := blk_frozen BK129.out 5
        have hfz82_6 := blk_frozen BK129.out 6
        have hfz82_7 := blk_frozen BK129.out 7
        have hfz82_8 := blk_frozen BK129.out 8
        have hfz82_9 := blk_frozen BK129.out 9
        have hfz82_10 := blk_frozen BK129.out 10
        have hfz82_11 := blk_frozen BK129.out 11
        have hfz82_12 := blk_frozen BK129.out 12
        have hfz82_13 := blk_frozen BK129.out 13
        have hfz82_14 := blk_frozen BK129.out 14
        have hfz82_15 := blk_frozen BK129.out 15
        have hfz82_16 := blk_frozen BK129.out 16
        have hfz82_17 := blk_frozen BK129.out 17
        have hfz82_18 := blk_frozen BK129.out 18
        have hfz82_19 := blk_frozen BK129.out 19
        have hfz82_20 := blk_frozen BK129.out 20
        have hfz82_21 := blk_frozen BK129.out 21
        have hfz82_22 := blk_frozen BK129.out 22
        have hfz82_23 := blk_frozen BK129.out 23
        have hfz82_24 := blk_frozen BK129.out 24
        have hfz82_25 := blk_frozen BK129.out 25
        have hfz82_26 := blk_frozen BK129.out 26
        have hfz82_27 := blk_frozen BK129.out 27
        have hfz82_28 := blk_frozen BK129.out 28
        go_wp2_with (first | ((with_reducible refine gate_callee (f := 25) rfl ?_); refine goesL_ (some 89) rfl rfl Tryd.func25 (by kernel_rfl) rfl #[.agg #[.string a0_9, .int .i64 a0_10, .int .i64 a0_11, .int .i64 a0_12, .int .i64 a0_13, .bool a0_14, .slice A0_15 l0_15.length c0_15, .slice A0_16 l0_16.length c0_16], .agg #[.string a1_9, .int .i64 a1_10, .int .i64 a1_11, .int .i64 a1_12, .int .i64 a1_13, .bool a1_14, .slice A1_15 l1_15.length c1_15, .slice A1_16 l1_16.length c1_16]] rfl (by (try simp only [List.map_toArray, List.map_cons, List.map_nil]); first | done | rfl | (simp only [List.length_drop, List.length_take]; rfl) | exact congrArg (fun n_ : Nat => #[Value.slice _ n_ _]) (Eq.trans (Aside0.out (by assumption)) (Eq.symm (Aside0.out (by assumption)))) | exact congrArg (fun n_ : Nat => #[Value.slice _ n_ _, Value.slice _ _ _]) (Eq.trans (Aside0.out (by assumption)) (Eq.symm (Aside0.out (by assumption))))) ?_; (with_reducible refine (rosterref13_sameSearch.calls kj29 a0_9 a0_10 a0_11 a0_12 a0_13 a0_14 _ _ l0_15 _ _ l0_16 a1_9 a1_10 a1_11 a1_12 a1_13 a1_14 _ _ l1_15 _ _ l1_16 false _ ?side1 ?side2 ?side3 ?side4 ?side5 ?side6 ?side7 ?side8 A55.out).mono ?_); (case side1 => repeat (first | exact (Kd.C_below HR0_15.out HB.out) | exact (Kd.C_below (Aside0.out (by assumption)) HB.out) | (with_reducible refine Kd.C_alloc ?_ _) | (with_reducible refine Kd.C_drewN ?_ _) | (with_reducible refine Kd.C_drew ?_))); (case side2 => first | exact HC0_15.out | exact Aside0.out (by assumption)); (case side3 => repeat (first | exact (Kd.C_below HR0_16.out HB.out) | exact (Kd.C_below (Aside0.out (by assumption)) HB.out) | (with_reducible refine Kd.C_alloc ?_ _) | (with_reducible refine Kd.C_drewN ?_ _) | (with_reducible refine Kd.C_drew ?_))); (case side4 => first | exact HC0_16.out | exact Aside0.out (by assumption)); (case side5 => repeat (first | exact (Kd.C_below HR1_15.out HB.out) | exact (Kd.C_below (Aside0.out (by assumption)) HB.out) | (with_reducible refine Kd.C_alloc ?_ _) | (with_reducible refine Kd.C_drewN ?_ _) | (with_reducible refine Kd.C_drew ?_))); (case side6 => first | exact HC1_15.out | exact Aside0.out (by assumption)); (case side7 => repeat (first | exact (Kd.C_below HR1_16.out HB.out) | exact (Kd.C_below (Aside0.out (by assumption)) HB.out) | (with_reducible refine Kd.C_alloc ?_ _) | (with_reducible refine Kd.C_drewN ?_ _) | (with_reducible refine Kd.C_drew ?_))); (case side8 => first | exact HC1_16.out | exact Aside0.out (by assumption)); rintro e w83 ⟨rfl, hb⟩; refine ⟨_, rfl, ?_⟩; have n0_ := Aside0.mk (blk_below (g := gb128) (o := .cells #[.int .i64 a0_0, .int .i64 a0_1, .int .i64 a0_2, .string a0_3, .int .i64 a0_4, .string a0_5, .string a0_6, .string a0_7, .bool a0_8, .string a0_9, .int .i64 a0_10, .int .i64 a0_11, .int .i64 a0_12, .int .i64 a0_13, .bool a0_14, .slice A0_15 l0_15.length c0_15, .slice A0_16 l0_16.length c0_16, .string a0_17, .slice A0_18 l0_18.length c0_18, .slice A0_19 l0_19.length c0_19, .string a0_20, .bool a0_21, .string a0_22, .bool a0_23, .string a0_24, .string a0_25, .bool a0_26, .int .i64 a0_27, .slice A0_28 l0_28.length c0_28] 36 (0, 0)) (by (with_reducible repeat (first | refine blk_drewN ?_ _ | refine blk_drew ?_ | refine blk_alloc ?_ _)); exact BK128.out) hb); have n1_ := Aside0.mk (blk_below (g := gb129) (o := .cells #[.int .i64 a1_0, .int .i64 a1_1, .int .i64 a1_2, .string a1_3, .int .i64 a1_4, .string a1_5, .string a1_6, .string a1_7, .bool a1_8, .string a1_9, .int .i64 a1_10, .int .i64 a1_11, .int .i64 a1_12, .int .i64 a1_13, .bool a1_14, .slice A1_15 l1_15.length c1_15, .slice A1_16 l1_16.length c1_16, .string a1_17, .slice A1_18 l1_18.length c1_18, .slice A1_19 l1_19.length c1_19, .string a1_20, .bool a1_21, .string a1_22, .bool a1_23, .string a1_24, .string a1_25, .bool a1_26, .int .i64 a1_27, .slice A1_28 l1_28.length c1_28] 36 (0, 0)) (by (with_reducible repeat (first | refine blk_drewN ?_ _ | refine blk_drew ?_ | refine blk_alloc ?_ _)); exact BK129.out) hb); have n2_ := Aside0.mk (below_step (by repeat (first | (with_reducible first | exact HB.out | apply below_alloc | apply pw_below_drewN | apply below_drew1 | refine below_set ?_ GE128.out | refine below_set ?_ GE129.out) | exact HB.out)) hb); clear BK128; clear BK129; clear HB; have BK128 := n0_; have BK129 := n1_; have HB := n2_; clear n0_ n1_ n2_; (try clear hb); (try clear hb2); (try clear hk); (try clear hi)))
        go_ret
        exact ⟨by first | rfl | (simp [isEmpty_ne_]; done) | (simp [*, errW_none, errW_some] <;> rfl), by repeat (first | (with_reducible first | exact HB.out | apply below_alloc | apply pw_below_drewN | apply below_drew1 | refine below_set ?_ GE128.out | refine below_set ?_ GE129.out) | exact HB.out)⟩

end Go.Proofs.YtbpediccbeoifaaDoor.GN
