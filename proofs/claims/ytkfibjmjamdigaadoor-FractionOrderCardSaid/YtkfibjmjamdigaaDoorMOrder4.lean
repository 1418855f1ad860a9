/- Whatever the input: FractionOrder returns true, and the input reads afterwards as it read before (the row lists three tables of the library; the card ties them to the program's text). No further condition. -/
import Derived.ShutString
import Derived.SizedLaws
import Derived.ChangeOld
import Derived.Below
import Derived.SevenTiedAt
import Derived.Test.YtkfibjmjamdigaaDoorMOrder2
import Derived.Test.YtkfibjmjamdigaaDoorMOrder3
-- Written by wip/myprint.py (a program of this repo's own) out of the translation.
namespace Go.Proofs.YtkfibjmjamdigaaDoor.Q
open Go.RowKit Go.Proofs.YtkfibjmjamdigaaDoorW.PrintWords Go.Proofs.YtkfibjmjamdigaaDoorW.PrintLast Go.Proofs.YtkfibjmjamdigaaDoorW.PrintMore
attribute [local go_sem] max2_int min2_int max_two min_two max_three min_three max_four min_four   -- for this text's walks alone
set_option linter.unusedVariables false
set_option linter.unusedSimpArgs false

attribute [local go_sem high] eqA23
/-! ### assessorlaw46_FractionOrder: function 6 -/
mutual
def assessorlaw46_FractionOrder.j0 : Nat → Int → Bool → Bool → Int → Int → Int → Int → Int → Int → Option (Bool)
 | 0, _, _, _, _, _, _, _, _, _ => none
 | k + 1, x7, x8, x57, x260000, x260001, x261000, x261001, x262000, x262001 => if x57 = true then (some false) else (if x8 = true then (if ((x7 == 0) != (x260000 == x261000 && (x260001 == x261001))) = true then (some false) else ((fraction_Sub.f k x260000 x260001 x261000 x261001).bind fun bt269 => (if bt269.2.2 = 0 then (assessorlaw46_FractionOrder.j1 k x7 ((decide (bt269.1 > 0)) != (decide (x7 > 0))) x260000 x260001 x261000 x261001 x262000 x262001) else (assessorlaw46_FractionOrder.j1 k x7 false x260000 x260001 x261000 x261001 x262000 x262001)))) else (some (x7 == 0)))
def assessorlaw46_FractionOrder.j1 : Nat → Int → Bool → Int → Int → Int → Int → Int → Int → Option (Bool)
 | 0, _, _, _, _, _, _, _, _ => none
 | k + 1, x7, x83, x260000, x260001, x261000, x261001, x262000, x262001 => if x83 = true then (some false) else ((fraction_Compare.f k x261000 x261001 x262000 x262001).bind fun bt273 => ((fraction_Compare.f k x260000 x260001 x262000 x262001).bind fun bt275 => (if bt273.2 = true then (if bt275.2 = true then (if x7 ≤ 0 then (if bt273.1 ≤ 0 then (assessorlaw46_FractionOrder.j2 k x7 (decide (bt275.1 > 0)) x260000 x260001 x261000 x261001 x262000 x262001) else (assessorlaw46_FractionOrder.j2 k x7 false x260000 x260001 x261000 x261001 x262000 x262001)) else (assessorlaw46_FractionOrder.j2 k x7 false x260000 x260001 x261000 x261001 x262000 x262001)) else (assessorlaw46_FractionOrder.j2 k x7 false x260000 x260001 x261000 x261001 x262000 x262001)) else (assessorlaw46_FractionOrder.j2 k x7 false x260000 x260001 x261000 x261001 x262000 x262001))))
def assessorlaw46_FractionOrder.j2 : Nat → Int → Bool → Int → Int → Int → Int → Int → Int → Option (Bool)
 | 0, _, _, _, _, _, _, _, _ => none
 | k + 1, x7, x111, x260000, x260001, x261000, x261001, x262000, x262001 => if x111 = true then (some false) else ((fraction_Add.f k x260000 x260001 x262000 x262001).bind fun bt277 => ((fraction_Add.f k x261000 x261001 x262000 x262001).bind fun bt281 => ((fraction_Compare.f k bt277.1 bt277.2.1 bt281.1 bt281.2.1).bind fun bt285 => (if bt277.2.2 = 0 then (if bt281.2.2 = 0 then (if bt285.2 = true then (assessorlaw46_FractionOrder.j3 k x7 (bt285.1 != x7) x260000 x260001 x261000 x261001 x262000 x262001) else (assessorlaw46_FractionOrder.j3 k x7 true x260000 x260001 x261000 x261001 x262000 x262001)) else (assessorlaw46_FractionOrder.j3 k x7 false x260000 x260001 x261000 x261001 x262000 x262001)) else (assessorlaw46_FractionOrder.j3 k x7 false x260000 x260001 x261000 x261001 x262000 x262001)))))
def assessorlaw46_FractionOrder.j3 : Nat → Int → Bool → Int → Int → Int → Int → Int → Int → Option (Bool)
 | 0, _, _, _, _, _, _, _, _ => none
 | k + 1, x7, x144, x260000, x260001, x261000, x261001, x262000, x262001 => if x144 = true then (some false) else ((fraction_Mul.f k x260000 x260001 x262000 x262001).bind fun bt287 => ((fraction_Mul.f k x261000 x261001 x262000 x262001).bind fun bt291 => ((fraction_Compare.f k bt287.1 bt287.2.1 bt291.1 bt291.2.1).bind fun bt295 => (if bt287.2.2 = 0 then (if bt291.2.2 = 0 then (if x262000 < 0 then (assessorlaw46_FractionOrder.j4 k true) else (if bt295.2 = true then (if x7 > 0 then (assessorlaw46_FractionOrder.j4 k true) else (assessorlaw46_FractionOrder.j4 k (decide (bt295.1 ≤ 0)))) else (assessorlaw46_FractionOrder.j4 k false))) else (assessorlaw46_FractionOrder.j4 k true)) else (assessorlaw46_FractionOrder.j4 k true)))))
def assessorlaw46_FractionOrder.j4 : Nat → Bool → Option (Bool)
 | 0, _ => none
 | k + 1, x6 => some x6
end
def assessorlaw46_FractionOrder.f (k : Nat) (a0_0 : Int) (a0_1 : Int) (a1_0 : Int) (a1_1 : Int) (a2_0 : Int) (a2_1 : Int) : Option (Bool) := (assessorlaw46_awake.f k).bind fun t262 => (if t262 = true then ((fraction_Compare.f k a0_0 a0_1 a1_0 a1_1).bind fun bt263 => ((fraction_Compare.f k a1_0 a1_1 a0_0 a0_1).bind fun bt265 => ((fraction_Valid.f k a0_0 a0_1).bind fun t267 => (if t267 = true then ((fraction_Valid.f k a1_0 a1_1).bind fun t268 => (if (bt263.2 != t268) = true then (assessorlaw46_FractionOrder.j0 k bt263.1 bt263.2 true a0_0 a0_1 a1_0 a1_1 a2_0 a2_1) else (if (bt265.2 != bt263.2) = true then (assessorlaw46_FractionOrder.j0 k bt263.1 bt263.2 true a0_0 a0_1 a1_0 a1_1 a2_0 a2_1) else (assessorlaw46_FractionOrder.j0 k bt263.1 bt263.2 (bt263.1 != (wrap64 (-bt265.1))) a0_0 a0_1 a1_0 a1_1 a2_0 a2_1)))) else (if bt263.2 = true then (assessorlaw46_FractionOrder.j0 k bt263.1 bt263.2 true a0_0 a0_1 a1_0 a1_1 a2_0 a2_1) else (if (bt265.2 != bt263.2) = true then (assessorlaw46_FractionOrder.j0 k bt263.1 bt263.2 true a0_0 a0_1 a1_0 a1_1 a2_0 a2_1) else (assessorlaw46_FractionOrder.j0 k bt263.1 bt263.2 (bt263.1 != (wrap64 (-bt265.1))) a0_0 a0_1 a1_0 a1_1 a2_0 a2_1))))))) else (some false))
theorem assessorlaw46_FractionOrder.mono_l : ∀ k, (∀ y0 y1 y2 y3 y4 y5 y6 y7 y8, LeO (assessorlaw46_FractionOrder.j0 k y0 y1 y2 y3 y4 y5 y6 y7 y8) (assessorlaw46_FractionOrder.j0 (k + 1) y0 y1 y2 y3 y4 y5 y6 y7 y8)) ∧ (∀ y0 y1 y2 y3 y4 y5 y6 y7, LeO (assessorlaw46_FractionOrder.j1 k y0 y1 y2 y3 y4 y5 y6 y7) (assessorlaw46_FractionOrder.j1 (k + 1) y0 y1 y2 y3 y4 y5 y6 y7)) ∧ (∀ y0 y1 y2 y3 y4 y5 y6 y7, LeO (assessorlaw46_FractionOrder.j2 k y0 y1 y2 y3 y4 y5 y6 y7) (assessorlaw46_FractionOrder.j2 (k + 1) y0 y1 y2 y3 y4 y5 y6 y7)) ∧ (∀ y0 y1 y2 y3 y4 y5 y6 y7, LeO (assessorlaw46_FractionOrder.j3 k y0 y1 y2 y3 y4 y5 y6 y7) (assessorlaw46_FractionOrder.j3 (k + 1) y0 y1 y2 y3 y4 y5 y6 y7)) ∧ (∀ y0, LeO (assessorlaw46_FractionOrder.j4 k y0) (assessorlaw46_FractionOrder.j4 (k + 1) y0))
 | 0 => ⟨fun _ _ _ _ _ _ _ _ _ r h => by simp [assessorlaw46_FractionOrder.j0] at h, fun _ _ _ _ _ _ _ _ r h => by simp [assessorlaw46_FractionOrder.j1] at h, fun _ _ _ _ _ _ _ _ r h => by simp [assessorlaw46_FractionOrder.j2] at h, fun _ _ _ _ _ _ _ _ r h => by simp [assessorlaw46_FractionOrder.j3] at h, fun _ r h => by simp [assessorlaw46_FractionOrder.j4] at h⟩
 | k + 1 => by
  obtain ⟨ih0, ih1, ih2, ih3, ih4⟩ := assessorlaw46_FractionOrder.mono_l k
  refine ⟨?_, ?_, ?_, ?_, ?_⟩
  ·
   intro y0 y1 y2 y3 y4 y5 y6 y7 y8
   unfold assessorlaw46_FractionOrder.j0
   repeat' first
   | (with_reducible exact ih0 _ _ _ _ _ _ _ _ _)
   | (with_reducible exact ih1 _ _ _ _ _ _ _ _)
   | (with_reducible exact ih2 _ _ _ _ _ _ _ _)
   | (with_reducible exact ih3 _ _ _ _ _ _ _ _)
   | (with_reducible exact ih4 _)
   | (with_reducible exact assessorlaw46_awake.mono _)
   | (with_reducible exact fraction_Add.mono _ _ _ _ _)
   | (with_reducible exact fraction_Compare.mono _ _ _ _ _)
   | (with_reducible exact fraction_Mul.mono _ _ _ _ _)
   | (with_reducible exact fraction_Sub.mono _ _ _ _ _)
   | (with_reducible exact fraction_Valid.mono _ _ _)
   | (with_reducible exact LeO.refl _)
   | (with_reducible exact LeO.none _)
   | (with_reducible refine LeO.ite ?_ ?_)
   | (with_reducible refine LeO.bind ?_ (fun _ => ?_))
   | exact ih0 _ _ _ _ _ _ _ _ _
   | exact ih1 _ _ _ _ _ _ _ _
   | exact ih2 _ _ _ _ _ _ _ _
   | exact ih3 _ _ _ _ _ _ _ _
   | exact ih4 _
   | exact assessorlaw46_awake.mono _
   | exact fraction_Add.mono _ _ _ _ _
   | exact fraction_Compare.mono _ _ _ _ _
   | exact fraction_Mul.mono _ _ _ _ _
   | exact fraction_Sub.mono _ _ _ _ _
   | exact fraction_Valid.mono _ _ _
   | exact LeO.none _
   | refine LeO.ite ?_ ?_
   | refine LeO.bind ?_ (fun _ => ?_)
  ·
   intro y0 y1 y2 y3 y4 y5 y6 y7
   unfold assessorlaw46_FractionOrder.j1
   repeat' first
   | (with_reducible exact ih0 _ _ _ _ _ _ _ _ _)
   | (with_reducible exact ih1 _ _ _ _ _ _ _ _)
   | (with_reducible exact ih2 _ _ _ _ _ _ _ _)
   | (with_reducible exact ih3 _ _ _ _ _ _ _ _)
   | (with_reducible exact ih4 _)
   | (with_reducible exact assessorlaw46_awake.mono _)
   | (with_reducible exact fraction_Add.mono _ _ _ _ _)
   | (with_reducible exact fraction_Compare.mono _ _ _ _ _)
   | (with_reducible exact fraction_Mul.mono _ _ _ _ _)
   | (with_reducible exact fraction_Sub.mono _ _ _ _ _)
   | (with_reducible exact fraction_Valid.mono _ _ _)
   | (with_reducible exact LeO.refl _)
   | (with_reducible exact LeO.none _)
   | (with_reducible refine LeO.ite ?_ ?_)
   | (with_reducible refine LeO.bind ?_ (fun _ => ?_))
   | exact ih0 _ _ _ _ _ _ _ _ _
   | exact ih1 _ _ _ _ _ _ _ _
   | exact ih2 _ _ _ _ _ _ _ _
   | exact ih3 _ _ _ _ _ _ _ _
   | exact ih4 _
   | exact assessorlaw46_awake.mono _
   | exact fraction_Add.mono _ _ _ _ _
   | exact fraction_Compare.mono _ _ _ _ _
   | exact fraction_Mul.mono _ _ _ _ _
   | exact fraction_Sub.mono _ _ _ _ _
   | exact fraction_Valid.mono _ _ _
   | exact LeO.none _
   | refine LeO.ite ?_ ?_
   | refine LeO.bind ?_ (fun _ => ?_)
  ·
   intro y0 y1 y2 y3 y4 y5 y6 y7
   unfold assessorlaw46_FractionOrder.j2
   repeat' first
   | (with_reducible exact ih0 _ _ _ _ _ _ _ _ _)
   | (with_reducible exact ih1 _ _ _ _ _ _ _ _)
   | (with_reducible exact ih2 _ _ _ _ _ _ _ _)
   | (with_reducible exact ih3 _ _ _ _ _ _ _ _)
   | (with_reducible exact ih4 _)
   | (with_reducible exact assessorlaw46_awake.mono _)
   | (with_reducible exact fraction_Add.mono _ _ _ _ _)
   | (with_reducible exact fraction_Compare.mono _ _ _ _ _)
   | (with_reducible exact fraction_Mul.mono _ _ _ _ _)
   | (with_reducible exact fraction_Sub.mono _ _ _ _ _)
   | (with_reducible exact fraction_Valid.mono _ _ _)
   | (with_reducible exact LeO.refl _)
   | (with_reducible exact LeO.none _)
   | (with_reducible refine LeO.ite ?_ ?_)
   | (with_reducible refine LeO.bind ?_ (fun _ => ?_))
   | exact ih0 _ _ _ _ _ _ _ _ _
   | exact ih1 _ _ _ _ _ _ _ _
   | exact ih2 _ _ _ _ _ _ _ _
   | exact ih3 _ _ _ _ _ _ _ _
   | exact ih4 _
   | exact assessorlaw46_awake.mono _
   | exact fraction_Add.mono _ _ _ _ _
   | exact fraction_Compare.mono _ _ _ _ _
   | exact fraction_Mul.mono _ _ _ _ _
   | exact fraction_Sub.mono _ _ _ _ _
   | exact fraction_Valid.mono _ _ _
   | exact LeO.none _
   | refine LeO.ite ?_ ?_
   | refine LeO.bind ?_ (fun _ => ?_)
  ·
   intro y0 y1 y2 y3 y4 y5 y6 y7
   unfold assessorlaw46_FractionOrder.j3
   repeat' first
   | (with_reducible exact ih0 _ _ _ _ _ _ _ _ _)
   | (with_reducible exact ih1 _ _ _ _ _ _ _ _)
   | (with_reducible exact ih2 _ _ _ _ _ _ _ _)
   | (with_reducible exact ih3 _ _ _ _ _ _ _ _)
   | (with_reducible exact ih4 _)
   | (with_reducible exact assessorlaw46_awake.mono _)
   | (with_reducible exact fraction_Add.mono _ _ _ _ _)
   | (with_reducible exact fraction_Compare.mono _ _ _ _ _)
   | (with_reducible exact fraction_Mul.mono _ _ _ _ _)
   | (with_reducible exact fraction_Sub.mono _ _ _ _ _)
   | (with_reducible exact fraction_Valid.mono _ _ _)
   | (with_reducible exact LeO.refl _)
   | (with_reducible exact LeO.none _)
   | (with_reducible refine LeO.ite ?_ ?_)
   | (with_reducible refine LeO.bind ?_ (fun _ => ?_))
   | exact ih0 _ _ _ _ _ _ _ _ _
   | exact ih1 _ _ _ _ _ _ _ _
   | exact ih2 _ _ _ _ _ _ _ _
   | exact ih3 _ _ _ _ _ _ _ _
   | exact ih4 _
   | exact assessorlaw46_awake.mono _
   | exact fraction_Add.mono _ _ _ _ _
   | exact fraction_Compare.mono _ _ _ _ _
   | exact fraction_Mul.mono _ _ _ _ _
   | exact fraction_Sub.mono _ _ _ _ _
   | exact fraction_Valid.mono _ _ _
   | exact LeO.none _
   | refine LeO.ite ?_ ?_
   | refine LeO.bind ?_ (fun _ => ?_)
  ·
   intro y0
   unfold assessorlaw46_FractionOrder.j4
   repeat' first
   | (with_reducible exact ih0 _ _ _ _ _ _ _ _ _)
   | (with_reducible exact ih1 _ _ _ _ _ _ _ _)
   | (with_reducible exact ih2 _ _ _ _ _ _ _ _)
   | (with_reducible exact ih3 _ _ _ _ _ _ _ _)
   | (with_reducible exact ih4 _)
   | (with_reducible exact assessorlaw46_awake.mono _)
   | (with_reducible exact fraction_Add.mono _ _ _ _ _)
   | (with_reducible exact fraction_Compare.mono _ _ _ _ _)
   | (with_reducible exact fraction_Mul.mono _ _ _ _ _)
   | (with_reducible exact fraction_Sub.mono _ _ _ _ _)
   | (with_reducible exact fraction_Valid.mono _ _ _)
   | (with_reducible exact LeO.refl _)
   | (with_reducible exact LeO.none _)
   | (with_reducible refine LeO.ite ?_ ?_)
   | (with_reducible refine LeO.bind ?_ (fun _ => ?_))
   | exact ih0 _ _ _ _ _ _ _ _ _
   | exact ih1 _ _ _ _ _ _ _ _
   | exact ih2 _ _ _ _ _ _ _ _
   | exact ih3 _ _ _ _ _ _ _ _
   | exact ih4 _
   | exact assessorlaw46_awake.mono _
   | exact fraction_Add.mono _ _ _ _ _
   | exact fraction_Compare.mono _ _ _ _ _
   | exact fraction_Mul.mono _ _ _ _ _
   | exact fraction_Sub.mono _ _ _ _ _
   | exact fraction_Valid.mono _ _ _
   | exact LeO.none _
   | refine LeO.ite ?_ ?_
   | refine LeO.bind ?_ (fun _ => ?_)
theorem assessorlaw46_FractionOrder.mono : ∀ a0 a1 a2 a3 a4 a5 k, LeO (assessorlaw46_FractionOrder.f k a0 a1 a2 a3 a4 a5) (assessorlaw46_FractionOrder.f (k + 1) a0 a1 a2 a3 a4 a5) := by
 intro a0 a1 a2 a3 a4 a5 k
 obtain ⟨ih0, ih1, ih2, ih3, ih4⟩ := assessorlaw46_FractionOrder.mono_l k
 unfold assessorlaw46_FractionOrder.f
 repeat' first
   | (with_reducible exact ih0 _ _ _ _ _ _ _ _ _)
   | (with_reducible exact ih1 _ _ _ _ _ _ _ _)
   | (with_reducible exact ih2 _ _ _ _ _ _ _ _)
   | (with_reducible exact ih3 _ _ _ _ _ _ _ _)
   | (with_reducible exact ih4 _)
   | (with_reducible exact assessorlaw46_awake.mono _)
   | (with_reducible exact fraction_Add.mono _ _ _ _ _)
   | (with_reducible exact fraction_Compare.mono _ _ _ _ _)
   | (with_reducible exact fraction_Mul.mono _ _ _ _ _)
   | (with_reducible exact fraction_Sub.mono _ _ _ _ _)
   | (with_reducible exact fraction_Valid.mono _ _ _)
   | (with_reducible exact LeO.refl _)
   | (with_reducible exact LeO.none _)
   | (with_reducible refine LeO.ite ?_ ?_)
   | (with_reducible refine LeO.bind ?_ (fun _ => ?_))
   | exact ih0 _ _ _ _ _ _ _ _ _
   | exact ih1 _ _ _ _ _ _ _ _
   | exact ih2 _ _ _ _ _ _ _ _
   | exact ih3 _ _ _ _ _ _ _ _
   | exact ih4 _
   | exact assessorlaw46_awake.mono _
   | exact fraction_Add.mono _ _ _ _ _
   | exact fraction_Compare.mono _ _ _ _ _
   | exact fraction_Mul.mono _ _ _ _ _
   | exact fraction_Sub.mono _ _ _ _ _
   | exact fraction_Valid.mono _ _ _
   | exact LeO.none _
   | refine LeO.ite ?_ ?_
   | refine LeO.bind ?_ (fun _ => ?_)
set_option maxHeartbeats 8000000 in
set_option maxRecDepth 100000 in
theorem assessorlaw46_FractionOrder.calls (k : Nat) (a0_0 : Int) (a0_1 : Int) (a1_0 : Int) (a1_1 : Int) (a2_0 : Int) (a2_1 : Int) (r : Bool) (w : World) (hr_ : Aside0 (r = true)) (hT_ : Tab w) (h : assessorlaw46_FractionOrder.f k a0_0 a0_1 a1_0 a1_1 a2_0 a2_1 = some r) :
  Calls Tryd.prog 6 #[.agg #[.int .i64 a0_0, .int .i64 a0_1], .agg #[.int .i64 a1_0, .int .i64 a1_1], .agg #[.int .i64 a2_0, .int .i64 a2_1]] w fun e w' => e = .returned (.bool r) ∧ Below w.heap.size w w' := by
 have hu23 := Tryd.underlying23
 have HB := Aside0.mk (Below.refl w.heap.size w)
 have H : ((assessorlaw46_awake.f k).bind fun t262 => (if t262 = true then ((fraction_Compare.f k a0_0 a0_1 a1_0 a1_1).bind fun bt263 => ((fraction_Compare.f k a1_0 a1_1 a0_0 a0_1).bind fun bt265 => ((fraction_Valid.f k a0_0 a0_1).bind fun t267 => (if t267 = true then ((fraction_Valid.f k a1_0 a1_1).bind fun t268 => (if (bt263.2 != t268) = true then (assessorlaw46_FractionOrder.j0 k bt263.1 bt263.2 true a0_0 a0_1 a1_0 a1_1 a2_0 a2_1) else (if (bt265.2 != bt263.2) = true then (assessorlaw46_FractionOrder.j0 k bt263.1 bt263.2 true a0_0 a0_1 a1_0 a1_1 a2_0 a2_1) else (assessorlaw46_FractionOrder.j0 k bt263.1 bt263.2 (bt263.1 != (wrap64 (-bt265.1))) a0_0 a0_1 a1_0 a1_1 a2_0 a2_1)))) else (if bt263.2 = true then (assessorlaw46_FractionOrder.j0 k bt263.1 bt263.2 true a0_0 a0_1 a1_0 a1_1 a2_0 a2_1) else (if (bt265.2 != bt263.2) = true then (assessorlaw46_FractionOrder.j0 k bt263.1 bt263.2 true a0_0 a0_1 a1_0 a1_1 a2_0 a2_1) else (assessorlaw46_FractionOrder.j0 k bt263.1 bt263.2 (bt263.1 != (wrap64 (-bt265.1))) a0_0 a0_1 a1_0 a1_1 a2_0 a2_1))))))) else (some false))) = some r := h
 clear h
 replace H := Option.bind_eq_some_iff.mp H
 obtain ⟨t262, A40, H⟩ := H
 replace H : (if t262 = true then ((fraction_Compare.f k a0_0 a0_1 a1_0 a1_1).bind fun bt263 => ((fraction_Compare.f k a1_0 a1_1 a0_0 a0_1).bind fun bt265 => ((fraction_Valid.f k a0_0 a0_1).bind fun t267 => (if t267 = true then ((fraction_Valid.f k a1_0 a1_1).bind fun t268 => (if (bt263.2 != t268) = true then (assessorlaw46_FractionOrder.j0 k bt263.1 bt263.2 true a0_0 a0_1 a1_0 a1_1 a2_0 a2_1) else (if (bt265.2 != bt263.2) = true then (assessorlaw46_FractionOrder.j0 k bt263.1 bt263.2 true a0_0 a0_1 a1_0 a1_1 a2_0 a2_1) else (assessorlaw46_FractionOrder.j0 k bt263.1 bt263.2 (bt263.1 != (wrap64 (-bt265.1))) a0_0 a0_1 a1_0 a1_1 a2_0 a2_1)))) else (if bt263.2 = true then (assessorlaw46_FractionOrder.j0 k bt263.1 bt263.2 true a0_0 a0_1 a1_0 a1_1 a2_0 a2_1) else (if (bt265.2 != bt263.2) = true then (assessorlaw46_FractionOrder.j0 k bt263.1 bt263.2 true a0_0 a0_1 a1_0 a1_1 a2_0 a2_1) else (assessorlaw46_FractionOrder.j0 k bt263.1 bt263.2 (bt263.1 != (wrap64 (-bt265.1))) a0_0 a0_1 a1_0 a1_1 a2_0 a2_1))))))) else (some false)) = some r := H
 have A4 := Aside0.mk A40
 clear A40
 by_cases c5 : t262 = true
 ·
  subst c5
  have H1 : ((fraction_Compare.f k a0_0 a0_1 a1_0 a1_1).bind fun bt263 => ((fraction_Compare.f k a1_0 a1_1 a0_0 a0_1).bind fun bt265 => ((fraction_Valid.f k a0_0 a0_1).bind fun t267 => (if t267 = true then ((fraction_Valid.f k a1_0 a1_1).bind fun t268 => (if (bt263.2 != t268) = true then (assessorlaw46_FractionOrder.j0 k bt263.1 bt263.2 true a0_0 a0_1 a1_0 a1_1 a2_0 a2_1) else (if (bt265.2 != bt263.2) = true then (assessorlaw46_FractionOrder.j0 k bt263.1 bt263.2 true a0_0 a0_1 a1_0 a1_1 a2_0 a2_1) else (assessorlaw46_FractionOrder.j0 k bt263.1 bt263.2 (bt263.1 != (wrap64 (-bt265.1))) a0_0 a0_1 a1_0 a1_1 a2_0 a2_1)))) else (if bt263.2 = true then (assessorlaw46_FractionOrder.j0 k bt263.1 bt263.2 true a0_0 a0_1 a1_0 a1_1 a2_0 a2_1) else (if (bt265.2 != bt263.2) = true then (assessorlaw46_FractionOrder.j0 k bt263.1 bt263.2 true a0_0 a0_1 a1_0 a1_1 a2_0 a2_1) else (assessorlaw46_FractionOrder.j0 k bt263.1 bt263.2 (bt263.1 != (wrap64 (-bt265.1))) a0_0 a0_1 a1_0 a1_1 a2_0 a2_1))))))) = some r := by rw [if_pos rfl] at H; exact H
  clear H
  have H := H1
  clear H1
  replace H := Option.bind_eq_some_iff.mp H
  obtain ⟨⟨t263, t264⟩, A60, H⟩ := H
  replace H : ((fraction_Compare.f k a1_0 a1_1 a0_0 a0_1).bind fun bt265 => ((fraction_Valid.f k a0_0 a0_1).bind fun t267 => (if t267 = true then ((fraction_Valid.f k a1_0 a1_1).bind fun t268 => (if (t264 != t268) = true then (assessorlaw46_FractionOrder.j0 k t263 t264 true a0_0 a0_1 a1_0 a1_1 a2_0 a2_1) else (if (bt265.2 != t264) = true then (assessorlaw46_FractionOrder.j0 k t263 t264 true a0_0 a0_1 a1_0 a1_1 a2_0 a2_1) else (assessorlaw46_FractionOrder.j0 k t263 t264 (t263 != (wrap64 (-bt265.1))) a0_0 a0_1 a1_0 a1_1 a2_0 a2_1)))) else (if t264 = true then (assessorlaw46_FractionOrder.j0 k t263 t264 true a0_0 a0_1 a1_0 a1_1 a2_0 a2_1) else (if (bt265.2 != t264) = true then (assessorlaw46_FractionOrder.j0 k t263 t264 true a0_0 a0_1 a1_0 a1_1 a2_0 a2_1) else (assessorlaw46_FractionOrder.j0 k t263 t264 (t263 != (wrap64 (-bt265.1))) a0_0 a0_1 a1_0 a1_1 a2_0 a2_1)))))) = some r := H
  have A6 := Aside0.mk A60
  clear A60
  replace H := Option.bind_eq_some_iff.mp H
  obtain ⟨⟨t265, t266⟩, A70, H⟩ := H
  replace H : ((fraction_Valid.f k a0_0 a0_1).bind fun t267 => (if t267 = true then ((fraction_Valid.f k a1_0 a1_1).bind fun t268 => (if (t264 != t268) = true then (assessorlaw46_FractionOrder.j0 k t263 t264 true a0_0 a0_1 a1_0 a1_1 a2_0 a2_1) else (if (t266 != t264) = true then (assessorlaw46_FractionOrder.j0 k t263 t264 true a0_0 a0_1 a1_0 a1_1 a2_0 a2_1) else (assessorlaw46_FractionOrder.j0 k t263 t264 (t263 != (wrap64 (-t265))) a0_0 a0_1 a1_0 a1_1 a2_0 a2_1)))) else (if t264 = true then (assessorlaw46_FractionOrder.j0 k t263 t264 true a0_0 a0_1 a1_0 a1_1 a2_0 a2_1) else (if (t266 != t264) = true then (assessorlaw46_FractionOrder.j0 k t263 t264 true a0_0 a0_1 a1_0 a1_1 a2_0 a2_1) else (assessorlaw46_FractionOrder.j0 k t263 t264 (t263 != (wrap64 (-t265))) a0_0 a0_1 a1_0 a1_1 a2_0 a2_1))))) = some r := H
  have A7 := Aside0.mk A70
  clear A70
  have HC8 := Aside0.mk H
  clear H
  go_enter Tryd.func6, Tryd.ntmps6
  go_upto_region 5 with (first | ((with_reducible refine gate_dst (N := 3) rfl ?_); refine box_event ?hg (N := 3) ?hd (cs := #[.int .i64 a0_0, .int .i64 a0_1]) (t := 23) ?hr ?_; (case hd => rfl); (case hg => rfl); (case hr => first | (go_simp; done) | (go_simp; rfl)); intro gb259 hg w9 hbox hb; have n0_ := Aside0.mk (below_step (by repeat (first | (with_reducible first | exact HB.out | apply b4 | apply b5 | apply b6) | exact HB.out)) hb); have n1_ := Aside0.mk (hbox); have n2_ := Aside0.mk ((by rw [hg]; exact (below_size (by repeat (first | (with_reducible first | exact HB.out | apply b4 | apply b5 | apply b6) | exact HB.out))) : w.heap.size ≤ gb259)); have n3_ := Aside0.mk ((by rw [hg]; exact (below_size (by repeat (first | (with_reducible first | exact HB.out | apply b4 | apply b5 | apply b6) | exact HB.out))) : w.heap.size ≤ gb259)); clear HB; have HB := n0_; have BK259 := n1_; have GW259 := n2_; have GE259 := n3_; clear n0_ n1_ n2_ n3_; clear hb hbox hg) | ((with_reducible refine gate_dst (N := 4) rfl ?_); refine box_event ?hg (N := 4) ?hd (cs := #[.int .i64 a1_0, .int .i64 a1_1]) (t := 23) ?hr ?_; (case hd => rfl); (case hg => rfl); (case hr => first | (go_simp; done) | (go_simp; rfl)); intro gb260 hg w10 hbox hb; have n0_ := Aside0.mk (blk_below (g := gb259) (o := .cells #[.int .i64 a0_0, .int .i64 a0_1] 23 (0, 0)) (by (with_reducible repeat first | apply b1 | apply b2 | apply b3); exact BK259.out) hb); have n1_ := Aside0.mk (below_step (by repeat (first | (with_reducible first | exact HB.out | apply b4 | apply b5 | apply b6 | refine below_set ?_ GE259.out) | exact HB.out)) hb); have n2_ := Aside0.mk (hbox); have n3_ := Aside0.mk ((by rw [hg]; exact (below_size (by repeat (first | (with_reducible first | exact HB.out | apply b4 | apply b5 | apply b6 | refine below_set ?_ GE259.out) | exact HB.out))) : w.heap.size ≤ gb260)); have n4_ := Aside0.mk ((by rw [hg]; exact (below_size (by repeat (first | (with_reducible first | exact HB.out | apply b4 | apply b5 | apply b6 | refine below_set ?_ GE259.out) | exact HB.out))) : w.heap.size ≤ gb260)); have n5_ := Aside0.mk ((by rw [hg]; exact Nat.ne_of_lt (blk_lt (g := gb259) (o := .cells #[.int .i64 a0_0, .int .i64 a0_1] 23 (0, 0)) (by (with_reducible repeat first | apply b1 | apply b2 | apply b3); exact BK259.out)) : gb259 ≠ gb260)); have n6_ := Aside0.mk ((by rw [hg]; exact Nat.ne_of_gt (blk_lt (g := gb259) (o := .cells #[.int .i64 a0_0, .int .i64 a0_1] 23 (0, 0)) (by (with_reducible repeat first | apply b1 | apply b2 | apply b3); exact BK259.out)) : gb260 ≠ gb259)); clear BK259; clear HB; have BK259 := n0_; have HB := n1_; have BK260 := n2_; have GW260 := n3_; have GE260 := n4_; have NB259_260 := n5_; have NB260_259 := n6_; clear n0_ n1_ n2_ n3_ n4_ n5_ n6_; clear hb hbox hg) | ((with_reducible refine gate_dst (N := 5) rfl ?_); refine box_event ?hg (N := 5) ?hd (cs := #[.int .i64 a2_0, .int .i64 a2_1]) (t := 23) ?hr ?_; (case hd => rfl); (case hg => rfl); (case hr => first | (go_simp; done) | (go_simp; rfl)); intro gb261 hg w11 hbox hb; have n0_ := Aside0.mk (blk_below (g := gb259) (o := .cells #[.int .i64 a0_0, .int .i64 a0_1] 23 (0, 0)) (by (with_reducible repeat first | apply b1 | apply b2 | apply b3); exact BK259.out) hb); have n1_ := Aside0.mk (blk_below (g := gb260) (o := .cells #[.int .i64 a1_0, .int .i64 a1_1] 23 (0, 0)) (by (with_reducible repeat first | apply b1 | apply b2 | apply b3); exact BK260.out) hb); have n2_ := Aside0.mk (below_step (by repeat (first | (with_reducible first | exact HB.out | apply b4 | apply b5 | apply b6 | refine below_set ?_ GE259.out | refine below_set ?_ GE260.out) | exact HB.out)) hb); have n3_ := Aside0.mk (hbox); have n4_ := Aside0.mk ((by rw [hg]; exact (below_size (by repeat (first | (with_reducible first | exact HB.out | apply b4 | apply b5 | apply b6 | refine below_set ?_ GE259.out | refine below_set ?_ GE260.out) | exact HB.out))) : w.heap.size ≤ gb261)); have n5_ := Aside0.mk ((by rw [hg]; exact (below_size (by repeat (first | (with_reducible first | exact HB.out | apply b4 | apply b5 | apply b6 | refine below_set ?_ GE259.out | refine below_set ?_ GE260.out) | exact HB.out))) : w.heap.size ≤ gb261)); have n6_ := Aside0.mk ((by rw [hg]; exact Nat.ne_of_lt (blk_lt (g := gb259) (o := .cells #[.int .i64 a0_0, .int .i64 a0_1] 23 (0, 0)) (by (with_reducible repeat first | apply b1 | apply b2 | apply b3); exact BK259.out)) : gb259 ≠ gb261)); have n7_ := Aside0.mk ((by rw [hg]; exact Nat.ne_of_gt (blk_lt (g := gb259) (o := .cells #[.int .i64 a0_0, .int .i64 a0_1] 23 (0, 0)) (by (with_reducible repeat first | apply b1 | apply b2 | apply b3); exact BK259.out)) : gb261 ≠ gb259)); have n8_ := Aside0.mk ((by rw [hg]; exact Nat.ne_of_lt (blk_lt (g := gb260) (o := .cells #[.int .i64 a1_0, .int .i64 a1_1] 23 (0, 0)) (by (with_reducible repeat first | apply b1 | apply b2 | apply b3); exact BK260.out)) : gb260 ≠ gb261)); have n9_ := Aside0.mk ((by rw [hg]; exact Nat.ne_of_gt (blk_lt (g := gb260) (o := .cells #[.int .i64 a1_0, .int .i64 a1_1] 23 (0, 0)) (by (with_reducible repeat first | apply b1 | apply b2 | apply b3); exact BK260.out)) : gb261 ≠ gb260)); clear BK259; clear BK260; clear HB; have BK259 := n0_; have BK260 := n1_; have HB := n2_; have BK261 := n3_; have GW261 := n4_; have GE261 := n5_; have NB259_261 := n6_; have NB261_259 := n7_; have NB260_261 := n8_; have NB261_260 := n9_; clear n0_ n1_ n2_ n3_ n4_ n5_ n6_ n7_ n8_ n9_; clear hb hbox hg) | ((with_reducible refine gate_callee (f := 10) rfl ?_); refine goesL_ (some 25) rfl rfl Tryd.func10 (by kernel_rfl) rfl #[] rfl (by (try simp only [List.map_toArray, List.map_cons, List.map_nil]); first | done | rfl | (simp only [List.length_drop, List.length_take]; rfl)) ?_; (with_reducible refine (assessorlaw46_awake.calls k  true _ ?side1 A4.out).mono ?_); (case side1 => exact Tab.below hT_ (by repeat (first | (with_reducible first | exact HB.out | apply b4 | apply b5 | apply b6 | refine below_set ?_ GE259.out | refine below_set ?_ GE260.out | refine below_set ?_ GE261.out) | exact HB.out))); rintro e w12 ⟨rfl, hb⟩; refine ⟨_, rfl, ?_⟩; have n0_ := Aside0.mk (blk_below (g := gb259) (o := .cells #[.int .i64 a0_0, .int .i64 a0_1] 23 (0, 0)) (by (with_reducible repeat first | apply b1 | apply b2 | apply b3); exact BK259.out) hb); have n1_ := Aside0.mk (blk_below (g := gb260) (o := .cells #[.int .i64 a1_0, .int .i64 a1_1] 23 (0, 0)) (by (with_reducible repeat first | apply b1 | apply b2 | apply b3); exact BK260.out) hb); have n2_ := Aside0.mk (blk_below (g := gb261) (o := .cells #[.int .i64 a2_0, .int .i64 a2_1] 23 (0, 0)) (by (with_reducible repeat first | apply b1 | apply b2 | apply b3); exact BK261.out) hb); have n3_ := Aside0.mk (below_step (by repeat (first | (with_reducible first | exact HB.out | apply b4 | apply b5 | apply b6 | refine below_set ?_ GE259.out | refine below_set ?_ GE260.out | refine below_set ?_ GE261.out) | exact HB.out)) hb); clear BK259; clear BK260; clear BK261; clear HB; have BK259 := n0_; have BK260 := n1_; have BK261 := n2_; have HB := n3_; clear n0_ n1_ n2_ n3_; (try clear hb); (try clear hb2); (try clear hk); (try clear hi); have hnb13 := NB259_260.out; have hnc13 := NB260_259.out; have hnb14 := NB259_261.out; have hnc14 := NB261_259.out; have hcz15_0 : w12.cell? ⟨gb259, 0, none⟩ = some (.int .i64 a0_0) := (blk_cell BK259.out 0).trans rfl; have hcz15_1 : w12.cell? ⟨gb259, 1, none⟩ = some (.int .i64 a0_1) := (blk_cell BK259.out 1).trans rfl; have hfz15_0 := blk_frozen BK259.out 0; have hfz15_1 := blk_frozen BK259.out 1; have hnb16 := NB260_261.out; have hnc16 := NB261_260.out; have hcz17_0 : w12.cell? ⟨gb260, 0, none⟩ = some (.int .i64 a1_0) := (blk_cell BK260.out 0).trans rfl; have hcz17_1 : w12.cell? ⟨gb260, 1, none⟩ = some (.int .i64 a1_1) := (blk_cell BK260.out 1).trans rfl; have hfz17_0 := blk_frozen BK260.out 0; have hfz17_1 := blk_frozen BK260.out 1) | ((with_reducible refine gate_callee (f := 27) rfl ?_); refine goesL_ (some 30) rfl rfl Tryd.func27 (by kernel_rfl) rfl #[.agg #[.int .i64 a0_0, .int .i64 a0_1], .agg #[.int .i64 a1_0, .int .i64 a1_1]] rfl (by (try simp only [List.map_toArray, List.map_cons, List.map_nil]); first | done | rfl | (simp only [List.length_drop, List.length_take]; rfl)) ?_; (with_reducible refine (fraction_Compare.calls k a0_0 a0_1 a1_0 a1_1 t263 t264 _ A6.out).mono ?_); rintro e w18 ⟨rfl, hb⟩; refine ⟨_, rfl, ?_⟩; have n0_ := Aside0.mk (blk_below (g := gb259) (o := .cells #[.int .i64 a0_0, .int .i64 a0_1] 23 (0, 0)) (by (with_reducible repeat first | apply b1 | apply b2 | apply b3); exact BK259.out) hb); have n1_ := Aside0.mk (blk_below (g := gb260) (o := .cells #[.int .i64 a1_0, .int .i64 a1_1] 23 (0, 0)) (by (with_reducible repeat first | apply b1 | apply b2 | apply b3); exact BK260.out) hb); have n2_ := Aside0.mk (blk_below (g := gb261) (o := .cells #[.int .i64 a2_0, .int .i64 a2_1] 23 (0, 0)) (by (with_reducible repeat first | apply b1 | apply b2 | apply b3); exact BK261.out) hb); have n3_ := Aside0.mk (below_step (by repeat (first | (with_reducible first | exact HB.out | apply b4 | apply b5 | apply b6 | refine below_set ?_ GE259.out | refine below_set ?_ GE260.out | refine below_set ?_ GE261.out) | exact HB.out)) hb); clear BK259; clear BK260; clear BK261; clear HB; have BK259 := n0_; have BK260 := n1_; have BK261 := n2_; have HB := n3_; clear n0_ n1_ n2_ n3_; (try clear hb); (try clear hb2); (try clear hk); (try clear hi); have hcz19_0 : w18.cell? ⟨gb260, 0, none⟩ = some (.int .i64 a1_0) := (blk_cell BK260.out 0).trans rfl; have hcz19_1 : w18.cell? ⟨gb260, 1, none⟩ = some (.int .i64 a1_1) := (blk_cell BK260.out 1).trans rfl; have hfz19_0 := blk_frozen BK260.out 0; have hfz19_1 := blk_frozen BK260.out 1; have hcz20_0 : w18.cell? ⟨gb259, 0, none⟩ = some (.int .i64 a0_0) := (blk_cell BK259.out 0).trans rfl; have hcz20_1 : w18.cell? ⟨gb259, 1, none⟩ = some (.int .i64 a0_1) := (blk_cell BK259.out 1).trans rfl; have hfz20_0 := blk_frozen BK259.out 0; have hfz20_1 := blk_frozen BK259.out 1) | ((with_reducible refine gate_callee (f := 27) rfl ?_); refine goesL_ (some 36) rfl rfl Tryd.func27 (by kernel_rfl) rfl #[.agg #[.int .i64 a1_0, .int .i64 a1_1], .agg #[.int .i64 a0_0, .int .i64 a0_1]] rfl (by (try simp only [List.map_toArray, List.map_cons, List.map_nil]); first | done | rfl | (simp only [List.length_drop, List.length_take]; rfl)) ?_; (with_reducible refine (fraction_Compare.calls k a1_0 a1_1 a0_0 a0_1 t265 t266 _ A7.out).mono ?_); rintro e w21 ⟨rfl, hb⟩; refine ⟨_, rfl, ?_⟩; have n0_ := Aside0.mk (blk_below (g := gb259) (o := .cells #[.int .i64 a0_0, .int .i64 a0_1] 23 (0, 0)) (by (with_reducible repeat first | apply b1 | apply b2 | apply b3); exact BK259.out) hb); have n1_ := Aside0.mk (blk_below (g := gb260) (o := .cells #[.int .i64 a1_0, .int .i64 a1_1] 23 (0, 0)) (by (with_reducible repeat first | apply b1 | apply b2 | apply b3); exact BK260.out) hb); have n2_ := Aside0.mk (blk_below (g := gb261) (o := .cells #[.int .i64 a2_0, .int .i64 a2_1] 23 (0, 0)) (by (with_reducible repeat first | apply b1 | apply b2 | apply b3); exact BK261.out) hb); have n3_ := Aside0.mk (below_step (by repeat (first | (with_reducible first | exact HB.out | apply b4 | apply b5 | apply b6 | refine below_set ?_ GE259.out | refine below_set ?_ GE260.out | refine below_set ?_ GE261.out) | exact HB.out)) hb); clear BK259; clear BK260; clear BK261; clear HB; have BK259 := n0_; have BK260 := n1_; have BK261 := n2_; have HB := n3_; clear n0_ n1_ n2_ n3_; (try clear hb); (try clear hb2); (try clear hk); (try clear hi)))
  (try simp only [Act.put, List.setIfInBounds_toArray, List.set_cons_zero, List.set_cons_succ])
  go_cut [57] (fun v57 wc => ∃ (kq : Nat) (x57_7 : Bool), v57 = .bool x57_7 ∧ Aside0 (assessorlaw46_FractionOrder.j0 kq t263 t264 x57_7 a0_0 a0_1 a1_0 a1_1 a2_0 a2_1 = some r) ∧ Aside0 (kq ≤ k) ∧ Aside0 (wc.heap[gb259]? = some (.cells #[.int .i64 a0_0, .int .i64 a0_1] 23 (0, 0))) ∧ Aside0 (wc.heap[gb260]? = some (.cells #[.int .i64 a1_0, .int .i64 a1_1] 23 (0, 0))) ∧ Aside0 (wc.heap[gb261]? = some (.cells #[.int .i64 a2_0, .int .i64 a2_1] 23 (0, 0))) ∧ Aside0 (Below w.heap.size w wc))
  case first => as_aux_lemma =>
   have H := HC8.out
   clear HC8
   replace H := Option.bind_eq_some_iff.mp H
   obtain ⟨t267, A220, H⟩ := H
   replace H : (if t267 = true then ((fraction_Valid.f k a1_0 a1_1).bind fun t268 => (if (t264 != t268) = true then (assessorlaw46_FractionOrder.j0 k t263 t264 true a0_0 a0_1 a1_0 a1_1 a2_0 a2_1) else (if (t266 != t264) = true then (assessorlaw46_FractionOrder.j0 k t263 t264 true a0_0 a0_1 a1_0 a1_1 a2_0 a2_1) else (assessorlaw46_FractionOrder.j0 k t263 t264 (t263 != (wrap64 (-t265))) a0_0 a0_1 a1_0 a1_1 a2_0 a2_1)))) else (if t264 = true then (assessorlaw46_FractionOrder.j0 k t263 t264 true a0_0 a0_1 a1_0 a1_1 a2_0 a2_1) else (if (t266 != t264) = true then (assessorlaw46_FractionOrder.j0 k t263 t264 true a0_0 a0_1 a1_0 a1_1 a2_0 a2_1) else (assessorlaw46_FractionOrder.j0 k t263 t264 (t263 != (wrap64 (-t265))) a0_0 a0_1 a1_0 a1_1 a2_0 a2_1)))) = some r := H
   have A22 := Aside0.mk A220
   clear A220
   by_cases c23 : t267 = true
   ·
    subst c23
    have H1 : ((fraction_Valid.f k a1_0 a1_1).bind fun t268 => (if (t264 != t268) = true then (assessorlaw46_FractionOrder.j0 k t263 t264 true a0_0 a0_1 a1_0 a1_1 a2_0 a2_1) else (if (t266 != t264) = true then (assessorlaw46_FractionOrder.j0 k t263 t264 true a0_0 a0_1 a1_0 a1_1 a2_0 a2_1) else (assessorlaw46_FractionOrder.j0 k t263 t264 (t263 != (wrap64 (-t265))) a0_0 a0_1 a1_0 a1_1 a2_0 a2_1)))) = some r := by rw [if_pos rfl] at H; exact H
    clear H
    have H := H1
    clear H1
    replace H := Option.bind_eq_some_iff.mp H
    obtain ⟨t268, A240, H⟩ := H
    replace H : (if (t264 != t268) = true then (assessorlaw46_FractionOrder.j0 k t263 t264 true a0_0 a0_1 a1_0 a1_1 a2_0 a2_1) else (if (t266 != t264) = true then (assessorlaw46_FractionOrder.j0 k t263 t264 true a0_0 a0_1 a1_0 a1_1 a2_0 a2_1) else (assessorlaw46_FractionOrder.j0 k t263 t264 (t263 != (wrap64 (-t265))) a0_0 a0_1 a1_0 a1_1 a2_0 a2_1))) = some r := H
    have A24 := Aside0.mk A240
    clear A240
    by_cases c25 : (t264 != t268) = true
    ·
     rw [if_pos c25] at H
     have c25b0 : (t264 != t268) = true := c25
     (try (have c25b1 : decide (t264 = t268) = false := by simpa using c25))
     (try (have c25b2 : (t264 == t268) = false := by simpa using c25))
     (try (have c25b3 : ¬ (t264 = t268) := by simpa using c25))
     clear c25
     (first | rw [c25b0] | (simp only [i64_w, i32_w]; rw [c25b0]) | skip)
     have H' := Aside0.mk H
     clear H
     have hnb26 := NB259_260.out
     have hnc26 := NB260_259.out
     have hnb27 := NB259_261.out
     have hnc27 := NB261_259.out
     have hcz28_0 : w21.cell? ⟨gb259, 0, none⟩ = some (.int .i64 a0_0) := (blk_cell BK259.out 0).trans rfl
     have hcz28_1 : w21.cell? ⟨gb259, 1, none⟩ = some (.int .i64 a0_1) := (blk_cell BK259.out 1).trans rfl
     have hfz28_0 := blk_frozen BK259.out 0
     have hfz28_1 := blk_frozen BK259.out 1
     go_wp2_with (first | ((with_reducible refine gate_callee (f := 15) rfl ?_); refine goesL_ (some 41) rfl rfl Tryd.func15 (by kernel_rfl) rfl #[.agg #[.int .i64 a0_0, .int .i64 a0_1]] rfl (by (try simp only [List.map_toArray, List.map_cons, List.map_nil]); first | done | rfl | (simp only [List.length_drop, List.length_take]; rfl)) ?_; (with_reducible refine (fraction_Valid.calls k a0_0 a0_1 true _ A22.out).mono ?_); rintro e w29 ⟨rfl, hb⟩; refine ⟨_, rfl, ?_⟩; have n0_ := Aside0.mk (blk_below (g := gb259) (o := .cells #[.int .i64 a0_0, .int .i64 a0_1] 23 (0, 0)) (by (with_reducible repeat first | apply b1 | apply b2 | apply b3); exact BK259.out) hb); have n1_ := Aside0.mk (blk_below (g := gb260) (o := .cells #[.int .i64 a1_0, .int .i64 a1_1] 23 (0, 0)) (by (with_reducible repeat first | apply b1 | apply b2 | apply b3); exact BK260.out) hb); have n2_ := Aside0.mk (blk_below (g := gb261) (o := .cells #[.int .i64 a2_0, .int .i64 a2_1] 23 (0, 0)) (by (with_reducible repeat first | apply b1 | apply b2 | apply b3); exact BK261.out) hb); have n3_ := Aside0.mk (below_step (by repeat (first | (with_reducible first | exact HB.out | apply b4 | apply b5 | apply b6 | refine below_set ?_ GE259.out | refine below_set ?_ GE260.out | refine below_set ?_ GE261.out) | exact HB.out)) hb); clear BK259; clear BK260; clear BK261; clear HB; have BK259 := n0_; have BK260 := n1_; have BK261 := n2_; have HB := n3_; clear n0_ n1_ n2_ n3_; (try clear hb); (try clear hb2); (try clear hk); (try clear hi); have hnb30 := NB260_261.out; have hnc30 := NB261_260.out; have hcz31_0 : w29.cell? ⟨gb260, 0, none⟩ = some (.int .i64 a1_0) := (blk_cell BK260.out 0).trans rfl; have hcz31_1 : w29.cell? ⟨gb260, 1, none⟩ = some (.int .i64 a1_1) := (blk_cell BK260.out 1).trans rfl; have hfz31_0 := blk_frozen BK260.out 0; have hfz31_1 := blk_frozen BK260.out 1) | (go_at_call 15; (with_reducible refine (fraction_Valid.calls k a1_0 a1_1 t268 _ A24.out).mono ?_); rintro e w32 ⟨rfl, hb⟩; have n0_ := Aside0.mk (blk_below (g := gb259) (o := .cells #[.int .i64 a0_0, .int .i64 a0_1] 23 (0, 0)) (by (with_reducible repeat first | apply b1 | apply b2 | apply b3); exact BK259.out) hb); have n1_ := Aside0.mk (blk_below (g := gb260) (o := .cells #[.int .i64 a1_0, .int .i64 a1_1] 23 (0, 0)) (by (with_reducible repeat first | apply b1 | apply b2 | apply b3); exact BK260.out) hb); have n2_ := Aside0.mk (blk_below (g := gb261) (o := .cells #[.int .i64 a2_0, .int .i64 a2_1] 23 (0, 0)) (by (with_reducible repeat first | apply b1 | apply b2 | apply b3); exact BK261.out) hb); have n3_ := Aside0.mk (below_step (by repeat (first | (with_reducible first | exact HB.out | apply b4 | apply b5 | apply b6 | refine below_set ?_ GE259.out | refine below_set ?_ GE260.out | refine below_set ?_ GE261.out) | exact HB.out)) hb); clear BK259; clear BK260; clear BK261; clear HB; have BK259 := n0_; have BK260 := n1_; have BK261 := n2_; have HB := n3_; clear n0_ n1_ n2_ n3_; (try clear hb); (try clear hb2); (try clear hk); (try clear hi)))
     go_meet
     case rel => exact ⟨_, (true), (by first | rfl | (simp; done) | (simp [*]; done)), H', ⟨by first | omega | exact Nat.le_refl _⟩, ⟨by (with_reducible repeat first | apply b1 | apply b2 | apply b3); exact BK259.out⟩, ⟨by (with_reducible repeat first | apply b1 | apply b2 | apply b3); exact BK260.out⟩, ⟨by (with_reducible repeat first | apply b1 | apply b2 | apply b3); exact BK261.out⟩, ⟨by repeat (first | (with_reducible first | exact HB.out | apply b4 | apply b5 | apply b6 | refine below_set ?_ GE259.out | refine below_set ?_ GE260.out | refine below_set ?_ GE261.out) | exact HB.out)⟩⟩
    ·
     rw [if_neg c25] at H
     have c25b0 : (t264 != t268) = false := by simpa using c25
     (try (have c25b1 : decide (t264 = t268) = true := by simpa using c25))
     (try (have c25b2 : (t264 == t268) = true := by simpa using c25))
     clear c25
     (first | rw [c25b0] | (simp only [i64_w, i32_w]; rw [c25b0]) | skip)
     by_cases c33 : (t266 != t264) = true
     ·
      rw [if_pos c33] at H
      have c33b0 : (t266 != t264) = true := c33
      (try (have c33b1 : decide (t266 = t264) = false := by simpa using c33))
      (try (have c33b2 : (t266 == t264) = false := by simpa using c33))
      (try (have c33b3 : ¬ (t266 = t264) := by simpa using c33))
      clear c33
      have H' := Aside0.mk H
      clear H
      have hnb34 := NB259_260.out
      have hnc34 := NB260_259.out
      have hnb35 := NB259_261.out
      have hnc35 := NB261_259.out
      have hcz36_0 : w21.cell? ⟨gb259, 0, none⟩ = some (.int .i64 a0_0) := (blk_cell BK259.out 0).trans rfl
      have hcz36_1 : w21.cell? ⟨gb259, 1, none⟩ = some (.int .i64 a0_1) := (blk_cell BK259.out 1).trans rfl
      have hfz36_0 := blk_frozen BK259.out 0
      have hfz36_1 := blk_frozen BK259.out 1
      go_wp2_with (first | ((with_reducible refine gate_callee (f := 15) rfl ?_); refine goesL_ (some 41) rfl rfl Tryd.func15 (by kernel_rfl) rfl #[.agg #[.int .i64 a0_0, .int .i64 a0_1]] rfl (by (try simp only [List.map_toArray, List.map_cons, List.map_nil]); first | done | rfl | (simp only [List.length_drop, List.length_take]; rfl)) ?_; (with_reducible refine (fraction_Valid.calls k a0_0 a0_1 true _ A22.out).mono ?_); rintro e w37 ⟨rfl, hb⟩; refine ⟨_, rfl, ?_⟩; have n0_ := Aside0.mk (blk_below (g := gb259) (o := .cells #[.int .i64 a0_0, .int .i64 a0_1] 23 (0, 0)) (by (with_reducible repeat first | apply b1 | apply b2 | apply b3); exact BK259.out) hb); have n1_ := Aside0.mk (blk_below (g := gb260) (o := .cells #[.int .i64 a1_0, .int .i64 a1_1] 23 (0, 0)) (by (with_reducible repeat first | apply b1 | apply b2 | apply b3); exact BK260.out) hb); have n2_ := Aside0.mk (blk_below (g := gb261) (o := .cells #[.int .i64 a2_0, .int .i64 a2_1] 23 (0, 0)) (by (with_reducible repeat first | apply b1 | apply b2 | apply b3); exact BK261.out) hb); have n3_ := Aside0.mk (below_step (by repeat (first | (with_reducible first | exact HB.out | apply b4 | apply b5 | apply b6 | refine below_set ?_ GE259.out | refine below_set ?_ GE260.out | refine below_set ?_ GE261.out) | exact HB.out)) hb); clear BK259; clear BK260; clear BK261; clear HB; have BK259 := n0_; have BK260 := n1_; have BK261 := n2_; have HB := n3_; clear n0_ n1_ n2_ n3_; (try clear hb); (try clear hb2); (try clear hk); (try clear hi); have hnb38 := NB260_261.out; have hnc38 := NB261_260.out; have hcz39_0 : w37.cell? ⟨gb260, 0, none⟩ = some (.int .i64 a1_0) := (blk_cell BK260.out 0).trans rfl; have hcz39_1 : w37.cell? ⟨gb260, 1, none⟩ = some (.int .i64 a1_1) := (blk_cell BK260.out 1).trans rfl; have hfz39_0 := blk_frozen BK260.out 0; have hfz39_1 := blk_frozen BK260.out 1) | (go_at_call 15; (with_reducible refine (fraction_Valid.calls k a1_0 a1_1 t268 _ A24.out).mono ?_); rintro e w40 ⟨rfl, hb⟩; have n0_ := Aside0.mk (blk_below (g := gb259) (o := .cells #[.int .i64 a0_0, .int .i64 a0_1] 23 (0, 0)) (by (with_reducible repeat first | apply b1 | apply b2 | apply b3); exact BK259.out) hb); have n1_ := Aside0.mk (blk_below (g := gb260) (o := .cells #[.int .i64 a1_0, .int .i64 a1_1] 23 (0, 0)) (by (with_reducible repeat first | apply b1 | apply b2 | apply b3); exact BK260.out) hb); have n2_ := Aside0.mk (blk_below (g := gb261) (o := .cells #[.int .i64 a2_0, .int .i64 a2_1] 23 (0, 0)) (by (with_reducible repeat first | apply b1 | apply b2 | apply b3); exact BK261.out) hb); have n3_ := Aside0.mk (below_step (by repeat (first | (with_reducible first | exact HB.out | apply b4 | apply b5 | apply b6 | refine below_set ?_ GE259.out | refine below_set ?_ GE260.out | refine below_set ?_ GE261.out) | exact HB.out)) hb); clear BK259; clear BK260; clear BK261; clear HB; have BK259 := n0_; have BK260 := n1_; have BK261 := n2_; have HB := n3_; clear n0_ n1_ n2_ n3_; (try clear hb); (try clear hb2); (try clear hk); (try clear hi)))
      go_meet
      case rel => exact ⟨_, (true), (by first | rfl | (simp; done) | (simp [*]; done)), H', ⟨by first | omega | exact Nat.le_refl _⟩, ⟨by (with_reducible repeat first | apply b1 | apply b2 | apply b3); exact BK259.out⟩, ⟨by (with_reducible repeat first | apply b1 | apply b2 | apply b3); exact BK260.out⟩, ⟨by (with_reducible repeat first | apply b1 | apply b2 | apply b3); exact BK261.out⟩, ⟨by repeat (first | (with_reducible first | exact HB.out | apply b4 | apply b5 | apply b6 | refine below_set ?_ GE259.out | refine below_set ?_ GE260.out | refine below_set ?_ GE261.out) | exact HB.out)⟩⟩
     ·
      rw [if_neg c33] at H
      have c33b0 : (t266 != t264) = false := by simpa using c33
      (try (have c33b1 : decide (t266 = t264) = true := by simpa using c33))
      (try (have c33b2 : (t266 == t264) = true := by simpa using c33))
      clear c33
      have H' := Aside0.mk H
      clear H
      have hnb41 := NB259_260.out
      have hnc41 := NB260_259.out
      have hnb42 := NB259_261.out
      have hnc42 := NB261_259.out
      have hcz43_0 : w21.cell? ⟨gb259, 0, none⟩ = some (.int .i64 a0_0) := (blk_cell BK259.out 0).trans rfl
      have hcz43_1 : w21.cell? ⟨gb259, 1, none⟩ = some (.int .i64 a0_1) := (blk_cell BK259.out 1).trans rfl
      have hfz43_0 := blk_frozen BK259.out 0
      have hfz43_1 := blk_frozen BK259.out 1
      go_wp2_with (first | ((with_reducible refine gate_callee (f := 15) rfl ?_); refine goesL_ (some 41) rfl rfl Tryd.func15 (by kernel_rfl) rfl #[.agg #[.int .i64 a0_0, .int .i64 a0_1]] rfl (by (try simp only [List.map_toArray, List.map_cons, List.map_nil]); first | done | rfl | (simp only [List.length_drop, List.length_take]; rfl)) ?_; (with_reducible refine (fraction_Valid.calls k a0_0 a0_1 true _ A22.out).mono ?_); rintro e w44 ⟨rfl, hb⟩; refine ⟨_, rfl, ?_⟩; have n0_ := Aside0.mk (blk_below (g := gb259) (o := .cells #[.int .i64 a0_0, .int .i64 a0_1] 23 (0, 0)) (by (with_reducible repeat first | apply b1 | apply b2 | apply b3); exact BK259.out) hb); have n1_ := Aside0.mk (blk_below (g := gb260) (o := .cells #[.int .i64 a1_0, .int .i64 a1_1] 23 (0, 0)) (by (with_reducible repeat first | apply b1 | apply b2 | apply b3); exact BK260.out) hb); have n2_ := Aside0.mk (blk_below (g := gb261) (o := .cells #[.int .i64 a2_0, .int .i64 a2_1] 23 (0, 0)) (by (with_reducible repeat first | apply b1 | apply b2 | apply b3); exact BK261.out) hb); have n3_ := Aside0.mk (below_step (by repeat (first | (with_reducible first | exact HB.out | apply b4 | apply b5 | apply b6 | refine below_set ?_ GE259.out | refine below_set ?_ GE260.out | refine below_set ?_ GE261.out) | exact HB.out)) hb); clear BK259; clear BK260; clear BK261; clear HB; have BK259 := n0_; have BK260 := n1_; have BK261 := n2_; have HB := n3_; clear n0_ n1_ n2_ n3_; (try clear hb); (try clear hb2); (try clear hk); (try clear hi); have hnb45 := NB260_261.out; have hnc45 := NB261_260.out; have hcz46_0 : w44.cell? ⟨gb260, 0, none⟩ = some (.int .i64 a1_0) := (blk_cell BK260.out 0).trans rfl; have hcz46_1 : w44.cell? ⟨gb260, 1, none⟩ = some (.int .i64 a1_1) := (blk_cell BK260.out 1).trans rfl; have hfz46_0 := blk_frozen BK260.out 0; have hfz46_1 := blk_frozen BK260.out 1) | (go_at_call 15; (with_reducible refine (fraction_Valid.calls k a1_0 a1_1 t268 _ A24.out).mono ?_); rintro e w47 ⟨rfl, hb⟩; have n0_ := Aside0.mk (blk_below (g := gb259) (o := .cells #[.int .i64 a0_0, .int .i64 a0_1] 23 (0, 0)) (by (with_reducible repeat first | apply b1 | apply b2 | apply b3); exact BK259.out) hb); have n1_ := Aside0.mk (blk_below (g := gb260) (o := .cells #[.int .i64 a1_0, .int .i64 a1_1] 23 (0, 0)) (by (with_reducible repeat first | apply b1 | apply b2 | apply b3); exact BK260.out) hb); have n2_ := Aside0.mk (blk_below (g := gb261) (o := .cells #[.int .i64 a2_0, .int .i64 a2_1] 23 (0, 0)) (by (with_reducible repeat first | apply b1 | apply b2 | apply b3); exact BK261.out) hb); have n3_ := Aside0.mk (below_step (by repeat (first | (with_reducible first | exact HB.out | apply b4 | apply b5 | apply b6 | refine below_set ?_ GE259.out | refine below_set ?_ GE260.out | refine below_set ?_ GE261.out) | exact HB.out)) hb); clear BK259; clear BK260; clear BK261; clear HB; have BK259 := n0_; have BK260 := n1_; have BK261 := n2_; have HB := n3_; clear n0_ n1_ n2_ n3_; (try clear hb); (try clear hb2); (try clear hk); (try clear hi)))
      go_meet
      case rel => exact ⟨_, ((t263 != (wrap64 (-t265)))), (by first | rfl | (simp; done) | (simp [*]; done)), H', ⟨by first | omega | exact Nat.le_refl _⟩, ⟨by (with_reducible repeat first | apply b1 | apply b2 | apply b3); exact BK259.out⟩, ⟨by (with_reducible repeat first | apply b1 | apply b2 | apply b3); exact BK260.out⟩, ⟨by (with_reducible repeat first | apply b1 | apply b2 | apply b3); exact BK261.out⟩, ⟨by repeat (first | (with_reducible first | exact HB.out | apply b4 | apply b5 | apply b6 | refine below_set ?_ GE259.out | refine below_set ?_ GE260.out | refine below_set ?_ GE261.out) | exact HB.out)⟩⟩
   ·
    replace c23 := Bool.eq_false_iff.mpr c23
    subst c23
    have H1 : (if t264 = true then (assessorlaw46_FractionOrder.j0 k t263 t264 true a0_0 a0_1 a1_0 a1_1 a2_0 a2_1) else (if (t266 != t264) = true then (assessorlaw46_FractionOrder.j0 k t263 t264 true a0_0 a0_1 a1_0 a1_1 a2_0 a2_1) else (assessorlaw46_FractionOrder.j0 k t263 t264 (t263 != (wrap64 (-t265))) a0_0 a0_1 a1_0 a1_1 a2_0 a2_1))) = some r := by rw [if_neg (show ¬ (false = true) by decide)] at H; exact H
    clear H
    have H := H1
    clear H1
    by_cases c48 : t264 = true
    ·
     subst c48
     have H1 : (assessorlaw46_FractionOrder.j0 k t263 true true a0_0 a0_1 a1_0 a1_1 a2_0 a2_1) = some r := by rw [if_pos rfl] at H; exact H
     clear H
     have H := H1
     clear H1
     have H' := Aside0.mk H
     clear H
     have hnb49 := NB259_260.out
     have hnc49 := NB260_259.out
     have hnb50 := NB259_261.out
     have hnc50 := NB261_259.out
     have hcz51_0 : w21.cell? ⟨gb259, 0, none⟩ = some (.int .i64 a0_0) := (blk_cell BK259.out 0).trans rfl
     have hcz51_1 : w21.cell? ⟨gb259, 1, none⟩ = some (.int .i64 a0_1) := (blk_cell BK259.out 1).trans rfl
     have hfz51_0 := blk_frozen BK259.out 0
     have hfz51_1 := blk_frozen BK259.out 1
     go_wp2_with (first | ((with_reducible refine gate_callee (f := 15) rfl ?_); refine goesL_ (some 41) rfl rfl Tryd.func15 (by kernel_rfl) rfl #[.agg #[.int .i64 a0_0, .int .i64 a0_1]] rfl (by (try simp only [List.map_toArray, List.map_cons, List.map_nil]); first | done | rfl | (simp only [List.length_drop, List.length_take]; rfl)) ?_; (with_reducible refine (fraction_Valid.calls k a0_0 a0_1 false _ A22.out).mono ?_); rintro e w52 ⟨rfl, hb⟩; refine ⟨_, rfl, ?_⟩; have n0_ := Aside0.mk (blk_below (g := gb259) (o := .cells #[.int .i64 a0_0, .int .i64 a0_1] 23 (0, 0)) (by (with_reducible repeat first | apply b1 | apply b2 | apply b3); exact BK259.out) hb); have n1_ := Aside0.mk (blk_below (g := gb260) (o := .cells #[.int .i64 a1_0, .int .i64 a1_1] 23 (0, 0)) (by (with_reducible repeat first | apply b1 | apply b2 | apply b3); exact BK260.out) hb); have n2_ := Aside0.mk (blk_below (g := gb261) (o := .cells #[.int .i64 a2_0, .int .i64 a2_1] 23 (0, 0)) (by (with_reducible repeat first | apply b1 | apply b2 | apply b3); exact BK261.out) hb); have n3_ := Aside0.mk (below_step (by repeat (first | (with_reducible first | exact HB.out | apply b4 | apply b5 | apply b6 | refine below_set ?_ GE259.out | refine below_set ?_ GE260.out | refine below_set ?_ GE261.out) | exact HB.out)) hb); clear BK259; clear BK260; clear BK261; clear HB; have BK259 := n0_; have BK260 := n1_; have BK261 := n2_; have HB := n3_; clear n0_ n1_ n2_ n3_; (try clear hb); (try clear hb2); (try clear hk); (try clear hi)))
     go_meet
     case rel => exact ⟨_, (true), (by first | rfl | (simp; done) | (simp [*]; done)), H', ⟨by first | omega | exact Nat.le_refl _⟩, ⟨by (with_reducible repeat first | apply b1 | apply b2 | apply b3); exact BK259.out⟩, ⟨by (with_reducible repeat first | apply b1 | apply b2 | apply b3); exact BK260.out⟩, ⟨by (with_reducible repeat first | apply b1 | apply b2 | apply b3); exact BK261.out⟩, ⟨by repeat (first | (with_reducible first | exact HB.out | apply b4 | apply b5 | apply b6 | refine below_set ?_ GE259.out | refine below_set ?_ GE260.out | refine below_set ?_ GE261.out) | exact HB.out)⟩⟩
    ·
     replace c48 := Bool.eq_false_iff.mpr c48
     subst c48
     have H1 : (if (t266 != false) = true then (assessorlaw46_FractionOrder.j0 k t263 false true a0_0 a0_1 a1_0 a1_1 a2_0 a2_1) else (assessorlaw46_FractionOrder.j0 k t263 false (t263 != (wrap64 (-t265))) a0_0 a0_1 a1_0 a1_1 a2_0 a2_1)) = some r := by rw [if_neg (show ¬ (false = true) by decide)] at H; exact H
     clear H
     have H := H1
     clear H1
     replace H : (if t266 = true then (assessorlaw46_FractionOrder.j0 k t263 false true a0_0 a0_1 a1_0 a1_1 a2_0 a2_1) else (assessorlaw46_FractionOrder.j0 k t263 false (t263 != (wrap64 (-t265))) a0_0 a0_1 a1_0 a1_1 a2_0 a2_1)) = some r := by cases t266 <;> exact H
     by_cases c53 : t266 = true
     ·
      subst c53
      have H1 : (assessorlaw46_FractionOrder.j0 k t263 false true a0_0 a0_1 a1_0 a1_1 a2_0 a2_1) = some r := by rw [if_pos rfl] at H; exact H
      clear H
      have H := H1
      clear H1
      have H' := Aside0.mk H
      clear H
      have hnb54 := NB259_260.out
      have hnc54 := NB260_259.out
      have hnb55 := NB259_261.out
      have hnc55 := NB261_259.out
      have hcz56_0 : w21.cell? ⟨gb259, 0, none⟩ = some (.int .i64 a0_0) := (blk_cell BK259.out 0).trans rfl
      have hcz56_1 : w21.cell? ⟨gb259, 1, none⟩ = some (.int .i64 a0_1) := (blk_cell BK259.out 1).trans rfl
      have hfz56_0 := blk_frozen BK259.out 0
      have hfz56_1 := blk_frozen BK259.out 1
      go_wp2_with (first | ((with_reducible refine gate_callee (f := 15) rfl ?_); refine goesL_ (some 41) rfl rfl Tryd.func15 (by kernel_rfl) rfl #[.agg #[.int .i64 a0_0, .int .i64 a0_1]] rfl (by (try simp only [List.map_toArray, List.map_cons, List.map_nil]); first | done | rfl | (simp only [List.length_drop, List.length_take]; rfl)) ?_; (with_reducible refine (fraction_Valid.calls k a0_0 a0_1 false _ A22.out).mono ?_); rintro e w57 ⟨rfl, hb⟩; refine ⟨_, rfl, ?_⟩; have n0_ := Aside0.mk (blk_below (g := gb259) (o := .cells #[.int .i64 a0_0, .int .i64 a0_1] 23 (0, 0)) (by (with_reducible repeat first | apply b1 | apply b2 | apply b3); exact BK259.out) hb); have n1_ := Aside0.mk (blk_below (g := gb260) (o := .cells #[.int .i64 a1_0, .int .i64 a1_1] 23 (0, 0)) (by (with_reducible repeat first | apply b1 | apply b2 | apply b3); exact BK260.out) hb); have n2_ := Aside0.mk (blk_below (g := gb261) (o := .cells #[.int .i64 a2_0, .int .i64 a2_1] 23 (0, 0)) (by (with_reducible repeat first | apply b1 | apply b2 | apply b3); exact BK261.out) hb); have n3_ := Aside0.mk (below_step (by repeat (first | (with_reducible first | exact HB.out | apply b4 | apply b5 | apply b6 | refine below_set ?_ GE259.out | refine below_set ?_ GE260.out | refine below_set ?_ GE261.out) | exact HB.out)) hb); clear BK259; clear BK260; clear BK261; clear HB; have BK259 := n0_; have BK260 := n1_; have BK261 := n2_; have HB := n3_; clear n0_ n1_ n2_ n3_; (try clear hb); (try clear hb2); (try clear hk); (try clear hi)))
      go_meet
      case rel => exact ⟨_, (true), (by first | rfl | (simp; done) | (simp [*]; done)), H', ⟨by first | omega | exact Nat.le_refl _⟩, ⟨by (with_reducible repeat first | apply b1 | apply b2 | apply b3); exact BK259.out⟩, ⟨by (with_reducible repeat first | apply b1 | apply b2 | apply b3); exact BK260.out⟩, ⟨by (with_reducible repeat first | apply b1 | apply b2 | apply b3); exact BK261.out⟩, ⟨by repeat (first | (with_reducible first | exact HB.out | apply b4 | apply b5 | apply b6 | refine below_set ?_ GE259.out | refine below_set ?_ GE260.out | refine below_set ?_ GE261.out) | exact HB.out)⟩⟩
     ·
      replace c53 := Bool.eq_false_iff.mpr c53
      subst c53
      have H1 : (assessorlaw46_FractionOrder.j0 k t263 false (t263 != (wrap64 (-t265))) a0_0 a0_1 a1_0 a1_1 a2_0 a2_1) = some r := by rw [if_neg (show ¬ (false = true) by decide)] at H; exact H
      clear H
      have H := H1
      clear H1
      have H' := Aside0.mk H
      clear H
      have hnb58 := NB259_260.out
      have hnc58 := NB260_259.out
      have hnb59 := NB259_261.out
      have hnc59 := NB261_259.out
      have hcz60_0 : w21.cell? ⟨gb259, 0, none⟩ = some (.int .i64 a0_0) := (blk_cell BK259.out 0).trans rfl
      have hcz60_1 : w21.cell? ⟨gb259, 1, none⟩ = some (.int .i64 a0_1) := (blk_cell BK259.out 1).trans rfl
      have hfz60_0 := blk_frozen BK259.out 0
      have hfz60_1 := blk_frozen BK259.out 1
      go_wp2_with (first | ((with_reducible refine gate_callee (f := 15) rfl ?_); refine goesL_ (some 41) rfl rfl Tryd.func15 (by kernel_rfl) rfl #[.agg #[.int .i64 a0_0, .int .i64 a0_1]] rfl (by (try simp only [List.map_toArray, List.map_cons, List.map_nil]); first | done | rfl | (simp only [List.length_drop, List.length_take]; rfl)) ?_; (with_reducible refine (fraction_Valid.calls k a0_0 a0_1 false _ A22.out).mono ?_); rintro e w61 ⟨rfl, hb⟩; refine ⟨_, rfl, ?_⟩; have n0_ := Aside0.mk (blk_below (g := gb259) (o := .cells #[.int .i64 a0_0, .int .i64 a0_1] 23 (0, 0)) (by (with_reducible repeat first | apply b1 | apply b2 | apply b3); exact BK259.out) hb); have n1_ := Aside0.mk (blk_below (g := gb260) (o := .cells #[.int .i64 a1_0, .int .i64 a1_1] 23 (0, 0)) (by (with_reducible repeat first | apply b1 | apply b2 | apply b3); exact BK260.out) hb); have n2_ := Aside0.mk (blk_below (g := gb261) (o := .cells #[.int .i64 a2_0, .int .i64 a2_1] 23 (0, 0)) (by (with_reducible repeat first | apply b1 | apply b2 | apply b3); exact BK261.out) hb); have n3_ := Aside0.mk (below_step (by repeat (first | (with_reducible first | exact HB.out | apply b4 | apply b5 | apply b6 | refine below_set ?_ GE259.out | refine below_set ?_ GE260.out | refine below_set ?_ GE261.out) | exact HB.out)) hb); clear BK259; clear BK260; clear BK261; clear HB; have BK259 := n0_; have BK260 := n1_; have BK261 := n2_; have HB := n3_; clear n0_ n1_ n2_ n3_; (try clear hb); (try clear hb2); (try clear hk); (try clear hi)))
      go_meet
      case rel => exact ⟨_, ((t263 != (wrap64 (-t265)))), (by first | rfl | (simp; done) | (simp [*]; done)), H', ⟨by first | omega | exact Nat.le_refl _⟩, ⟨by (with_reducible repeat first | apply b1 | apply b2 | apply b3); exact BK259.out⟩, ⟨by (with_reducible repeat first | apply b1 | apply b2 | apply b3); exact BK260.out⟩, ⟨by (with_reducible repeat first | apply b1 | apply b2 | apply b3); exact BK261.out⟩, ⟨by repeat (first | (with_reducible first | exact HB.out | apply b4 | apply b5 | apply b6 | refine below_set ?_ GE259.out | refine below_set ?_ GE260.out | refine below_set ?_ GE261.out) | exact HB.out)⟩⟩
  case rest => as_aux_lemma =>
   clear HC8
   try clear c1
   try clear c2
   try clear p2
   try clear c3
   try clear c4
   try clear c5
   try clear c6
   try clear p6
   try clear c10
   try clear c13
   try clear c14
   try clear c15
   try clear c16
   try clear c23
   try clear c25
   try clear c25b0
   try clear c25b1
   try clear c25b2
   try clear c26
   try clear c27
   try clear c30
   try clear c33
   try clear c33b0
   try clear c33b1
   try clear c33b2
   try clear c34
   try clear c35
   try clear c38
   try clear c41
   try clear c42
   try clear c45
   try clear c48
   try clear c49
   try clear c50
   try clear c53
   try clear c54
   try clear c55
   try clear c58
   try clear c59
   try clear hcz15_0
   try clear hcz15_1
   try clear hcz17_0
   try clear hcz17_1
   try clear hcz19_0
   try clear hcz19_1
   try clear hcz20_0
   try clear hcz20_1
   try clear hcz28_0
   try clear hcz28_1
   try clear hcz31_0
   try clear hcz31_1
   try clear hcz36_0
   try clear hcz36_1
   try clear hcz39_0
   try clear hcz39_1
   try clear hcz43_0
   try clear hcz43_1
   try clear hcz46_0
   try clear hcz46_1
   try clear hcz51_0
   try clear hcz51_1
   try clear hcz56_0
   try clear hcz56_1
   try clear hcz60_0
   try clear hcz60_1
   try clear hfz15_0
   try clear hfz15_1
   try clear hfz17_0
   try clear hfz17_1
   try clear hfz19_0
   try clear hfz19_1
   try clear hfz20_0
   try clear hfz20_1
   try clear hfz28_0
   try clear hfz28_1
   try clear hfz31_0
   try clear hfz31_1
   try clear hfz36_0
   try clear hfz36_1
   try clear hfz39_0
   try clear hfz39_1
   try clear hfz43_0
   try clear hfz43_1
   try clear hfz46_0
   try clear hfz46_1
   try clear hfz51_0
   try clear hfz51_1
   try clear hfz56_0
   try clear hfz56_1
   try clear hfz60_0
   try clear hfz60_1
   obtain ⟨kq, x57_7, rfl, HA, HJ7, BK259, BK260, BK261, HB⟩ := hcut
   cases kq with
   | zero => exact absurd HA.out (by simp [assessorlaw46_FractionOrder.j0])
   | succ kj7 =>
    have H := HA.out
    clear HA
    simp only [assessorlaw46_FractionOrder.j0] at H
    by_cases c62 : x57_7 = true
    ·
     subst c62
     have H1 : (some false) = some r := by rw [if_pos rfl] at H; exact H
     clear H
     have H := H1
     clear H1
     obtain rfl := Option.some.inj H
     exact absurd hr_.out (by simp)
    ·
     replace c62 := Bool.eq_false_iff.mpr c62
     subst c62
     have H1 : (if t264 = true then (if ((t263 == 0) != (a0_0 == a1_0 && (a0_1 == a1_1))) = true then (some false) else ((fraction_Sub.f kj7 a0_0 a0_1 a1_0 a1_1).bind fun bt269 => (if bt269.2.2 = 0 then (assessorlaw46_FractionOrder.j1 kj7 t263 ((decide (bt269.1 > 0)) != (decide (t263 > 0))) a0_0 a0_1 a1_0 a1_1 a2_0 a2_1) else (assessorlaw46_FractionOrder.j1 kj7 t263 false a0_0 a0_1 a1_0 a1_1 a2_0 a2_1)))) else (some (t263 == 0))) = some r := by rw [if_neg (show ¬ (false = true) by decide)] at H; exact H
     clear H
     have H := H1
     clear H1
     by_cases c63 : t264 = true
     ·
      subst c63
      have H1 : (if ((t263 == 0) != (a0_0 == a1_0 && (a0_1 == a1_1))) = true then (some false) else ((fraction_Sub.f kj7 a0_0 a0_1 a1_0 a1_1).bind fun bt269 => (if bt269.2.2 = 0 then (assessorlaw46_FractionOrder.j1 kj7 t263 ((decide (bt269.1 > 0)) != (decide (t263 > 0))) a0_0 a0_1 a1_0 a1_1 a2_0 a2_1) else (assessorlaw46_FractionOrder.j1 kj7 t263 false a0_0 a0_1 a1_0 a1_1 a2_0 a2_1)))) = some r := by rw [if_pos rfl] at H; exact H
      clear H
      have H := H1
      clear H1
      by_cases c64 : ((t263 == 0) != (a0_0 == a1_0 && (a0_1 == a1_1))) = true
      ·
       rw [if_pos c64] at H
       have c64b0 : ((t263 == 0) != (a0_0 == a1_0 && (a0_1 == a1_1))) = true := c64
       (try (have c64b1 : decide ((t263 == 0) = (a0_0 == a1_0 && (a0_1 == a1_1))) = false := by simpa using c64))
       (try (have c64b2 : ((t263 == 0) == (a0_0 == a1_0 && (a0_1 == a1_1))) = false := by simpa using c64))
       (try (have c64b3 : ¬ ((t263 == 0) = (a0_0 == a1_0 && (a0_1 == a1_1))) := by simpa using c64))
       clear c64
       obtain rfl := Option.some.inj H
       exact absurd hr_.out (by simp)
      ·
       rw [if_neg c64] at H
       have c64b0 : ((t263 == 0) != (a0_0 == a1_0 && (a0_1 == a1_1))) = false := by simpa using c64
       (try (have c64b1 : decide ((t263 == 0) = (a0_0 == a1_0 && (a0_1 == a1_1))) = true := by simpa using c64))
       (try (have c64b2 : ((t263 == 0) == (a0_0 == a1_0 && (a0_1 == a1_1))) = true := by simpa using c64))
       clear c64
       replace H := Option.bind_eq_some_iff.mp H
       obtain ⟨⟨t269, t270, t271⟩, A650, H⟩ := H
       replace H : (if t271 = 0 then (assessorlaw46_FractionOrder.j1 kj7 t263 ((decide (t269 > 0)) != (decide (t263 > 0))) a0_0 a0_1 a1_0 a1_1 a2_0 a2_1) else (assessorlaw46_FractionOrder.j1 kj7 t263 false a0_0 a0_1 a1_0 a1_1 a2_0 a2_1)) = some r := H
       have A65 := Aside0.mk A650
       clear A650
       have HC66 := Aside0.mk H
       clear H
       have hnb67 := NB259_260.out
       have hnc67 := NB260_259.out
       have hnb68 := NB259_261.out
       have hnc68 := NB261_259.out
       have hcz69_0 : wc.cell? ⟨gb259, 0, none⟩ = some (.int .i64 a0_0) := (blk_cell BK259.out 0).trans rfl
       have hcz69_1 : wc.cell? ⟨gb259, 1, none⟩ = some (.int .i64 a0_1) := (blk_cell BK259.out 1).trans rfl
       have hfz69_0 := blk_frozen BK259.out 0
       have hfz69_1 := blk_frozen BK259.out 1
       have hnb70 := NB260_261.out
       have hnc70 := NB261_260.out
       have hcz71_0 : wc.cell? ⟨gb260, 0, none⟩ = some (.int .i64 a1_0) := (blk_cell BK260.out 0).trans rfl
       have hcz71_1 : wc.cell? ⟨gb260, 1, none⟩ = some (.int .i64 a1_1) := (blk_cell BK260.out 1).trans rfl
       have hfz71_0 := blk_frozen BK260.out 0
       have hfz71_1 := blk_frozen BK260.out 1
       go_upto_region 12 with (first | ((with_reducible refine gate_callee (f := 23) rfl ?_); refine goesL_ (some 71) rfl rfl Tryd.func23 (by kernel_rfl) rfl #[.agg #[.int .i64 a0_0, .int .i64 a0_1], .agg #[.int .i64 a1_0, .int .i64 a1_1]] rfl (by (try simp only [List.map_toArray, List.map_cons, List.map_nil]); first | done | rfl | (simp only [List.length_drop, List.length_take]; rfl)) ?_; (with_reducible refine (fraction_Sub.calls kj7 a0_0 a0_1 a1_0 a1_1 t269 t270 t271 _ A65.out).mono ?_); rintro e w72 ⟨rfl, hb⟩; refine ⟨_, rfl, ?_⟩; have n0_ := Aside0.mk (blk_below (g := gb259) (o := .cells #[.int .i64 a0_0, .int .i64 a0_1] 23 (0, 0)) (by (with_reducible repeat first | apply b1 | apply b2 | apply b3); exact BK259.out) hb); have n1_ := Aside0.mk (blk_below (g := gb260) (o := .cells #[.int .i64 a1_0, .int .i64 a1_1] 23 (0, 0)) (by (with_reducible repeat first | apply b1 | apply b2 | apply b3); exact BK260.out) hb); have n2_ := Aside0.mk (blk_below (g := gb261) (o := .cells #[.int .i64 a2_0, .int .i64 a2_1] 23 (0, 0)) (by (with_reducible repeat first | apply b1 | apply b2 | apply b3); exact BK261.out) hb); have n3_ := Aside0.mk (below_step (by repeat (first | (with_reducible first | exact HB.out | apply b4 | apply b5 | apply b6 | refine below_set ?_ GE259.out | refine below_set ?_ GE260.out | refine below_set ?_ GE261.out) | exact HB.out)) hb); clear BK259; clear BK260; clear BK261; clear HB; have BK259 := n0_; have BK260 := n1_; have BK261 := n2_; have HB := n3_; clear n0_ n1_ n2_ n3_; (try clear hb); (try clear hb2); (try clear hk); (try clear hi)) | ((with_reducible refine gate_dst (N := 11) rfl ?_); refine box_event ?hg (N := 11) ?hd (cs := #[.int .i64 0, .int .i64 0]) (t := 23) ?hr ?_; (case hd => rfl); (case hg => rfl); (case hr => first | (go_simp; done) | (go_simp; rfl)); intro gb272 hg w73 hbox hb; have n0_ := Aside0.mk (blk_below (g := gb259) (o := .cells #[.int .i64 a0_0, .int .i64 a0_1] 23 (0, 0)) (by (with_reducible repeat first | apply b1 | apply b2 | apply b3); exact BK259.out) hb); have n1_ := Aside0.mk (blk_below (g := gb260) (o := .cells #[.int .i64 a1_0, .int .i64 a1_1] 23 (0, 0)) (by (with_reducible repeat first | apply b1 | apply b2 | apply b3); exact BK260.out) hb); have n2_ := Aside0.mk (blk_below (g := gb261) (o := .cells #[.int .i64 a2_0, .int .i64 a2_1] 23 (0, 0)) (by (with_reducible repeat first | apply b1 | apply b2 | apply b3); exact BK261.out) hb); have n3_ := Aside0.mk (below_step (by repeat (first | (with_reducible first | exact HB.out | apply b4 | apply b5 | apply b6 | refine below_set ?_ GE259.out | refine below_set ?_ GE260.out | refine below_set ?_ GE261.out) | exact HB.out)) hb); have n4_ := Aside0.mk (hbox); have n5_ := Aside0.mk ((by rw [hg]; exact (below_size (by repeat (first | (with_reducible first | exact HB.out | apply b4 | apply b5 | apply b6 | refine below_set ?_ GE259.out | refine below_set ?_ GE260.out | refine below_set ?_ GE261.out) | exact HB.out))) : w.heap.size ≤ gb272)); have n6_ := Aside0.mk ((by rw [hg]; exact (below_size (by repeat (first | (with_reducible first | exact HB.out | apply b4 | apply b5 | apply b6 | refine below_set ?_ GE259.out | refine below_set ?_ GE260.out | refine below_set ?_ GE261.out) | exact HB.out))) : w.heap.size ≤ gb272)); have n7_ := Aside0.mk ((by rw [hg]; exact Nat.ne_of_lt (blk_lt (g := gb259) (o := .cells #[.int .i64 a0_0, .int .i64 a0_1] 23 (0, 0)) (by (with_reducible repeat first | apply b1 | apply b2 | apply b3); exact BK259.out)) : gb259 ≠ gb272)); have n8_ := Aside0.mk ((by rw [hg]; exact Nat.ne_of_gt (blk_lt (g := gb259) (o := .cells #[.int .i64 a0_0, .int .i64 a0_1] 23 (0, 0)) (by (with_reducible repeat first | apply b1 | apply b2 | apply b3); exact BK259.out)) : gb272 ≠ gb259)); have n9_ := Aside0.mk ((by rw [hg]; exact Nat.ne_of_lt (blk_lt (g := gb260) (o := .cells #[.int .i64 a1_0, .int .i64 a1_1] 23 (0, 0)) (by (with_reducible repeat first | apply b1 | apply b2 | apply b3); exact BK260.out)) : gb260 ≠ gb272)); have n10_ := Aside0.mk ((by rw [hg]; exact Nat.ne_of_gt (blk_lt (g := gb260) (o := .cells #[.int .i64 a1_0, .int .i64 a1_1] 23 (0, 0)) (by (with_reducible repeat first | apply b1 | apply b2 | apply b3); exact BK260.out)) : gb272 ≠ gb260)); have n11_ := Aside0.mk ((by rw [hg]; exact Nat.ne_of_lt (blk_lt (g := gb261) (o := .cells #[.int .i64 a2_0, .int .i64 a2_1] 23 (0, 0)) (by (with_reducible repeat first | apply b1 | apply b2 | apply b3); exact BK261.out)) : gb261 ≠ gb272)); have n12_ := Aside0.mk ((by rw [hg]; exact Nat.ne_of_gt (blk_lt (g := gb261) (o := .cells #[.int .i64 a2_0, .int .i64 a2_1] 23 (0, 0)) (by (with_reducible repeat first | apply b1 | apply b2 | apply b3); exact BK261.out)) : gb272 ≠ gb261)); clear BK259; clear BK260; clear BK261; clear HB; have BK259 := n0_; have BK260 := n1_; have BK261 := n2_; have HB := n3_; have BK272 := n4_; have GW272 := n5_; have GE272 := n6_; have NB259_272 := n7_; have NB272_259 := n8_; have NB260_272 := n9_; have NB272_260 := n10_; have NB261_272 := n11_; have NB272_261 := n12_; clear n0_ n1_ n2_ n3_ n4_ n5_ n6_ n7_ n8_ n9_ n10_ n11_ n12_; clear hb hbox hg; have hnb74 := NB272_259.out; have hnc74 := NB259_272.out; have hnb75 := NB272_260.out; have hnc75 := NB260_272.out; have hnb76 := NB272_261.out; have hnc76 := NB261_272.out; have hcz77_0 : w73.cell? ⟨gb272, 0, none⟩ = some (.int .i64 0) := (blk_cell BK272.out 0).trans rfl; have hcz77_1 : w73.cell? ⟨gb272, 1, none⟩ = some (.int .i64 0) := (blk_cell BK272.out 1).trans rfl; have hfz77_0 := blk_frozen BK272.out 0; have hfz77_1 := blk_frozen BK272.out 1))
       (try simp only [Act.put, List.setIfInBounds_toArray, List.set_cons_zero, List.set_cons_succ])
       go_cut [83] (fun v83 wc => ∃ (kq : Nat) (x83_65 : Bool), v83 = .bool x83_65 ∧ Aside0 (assessorlaw46_FractionOrder.j1 kq t263 x83_65 a0_0 a0_1 a1_0 a1_1 a2_0 a2_1 = some r) ∧ Aside0 (kq ≤ kj7) ∧ Aside0 (wc.heap[gb259]? = some (.cells #[.int .i64 a0_0, .int .i64 a0_1] 23 (0, 0))) ∧ Aside0 (wc.heap[gb260]? = some (.cells #[.int .i64 a1_0, .int .i64 a1_1] 23 (0, 0))) ∧ Aside0 (wc.heap[gb261]? = some (.cells #[.int .i64 a2_0, .int .i64 a2_1] 23 (0, 0))) ∧ Aside0 (wc.heap[gb272]? = some (.cells #[.int .i64 t269, .int .i64 t270] 23 (0, 0))) ∧ Aside0 (Below w.heap.size w wc))
       case first => as_aux_lemma =>
        have H := HC66.out
        clear HC66
        by_cases c78 : t271 = 0
        ·
         rw [if_pos c78] at H
         have c78b0 : (t271 == 0) = true := beq_iff_eq.mpr c78
         have c78b1 : (t271 != 0) = false := bne_eq_false_iff_eq.mpr c78
         clear c78
         (first | rw [c78b0] | (simp only [i64_w, i32_w]; rw [c78b0]) | skip)
         have H' := Aside0.mk H
         clear H
         have hnb79 := NB272_259.out
         have hnc79 := NB259_272.out
         have hnb80 := NB272_260.out
         have hnc80 := NB260_272.out
         have hnb81 := NB272_261.out
         have hnc81 := NB261_272.out
         have hcz82_0 : w73.cell? ⟨gb272, 0, none⟩ = some (.int .i64 0) := (blk_cell BK272.out 0).trans rfl
         have hcz82_1 : w73.cell? ⟨gb272, 1, none⟩ = some (.int .i64 0) := (blk_cell BK272.out 1).trans rfl
         have hfz82_0 := blk_frozen BK272.out 0
         have hfz82_1 := blk_frozen BK272.out 1
         go_wp2
         go_meet
         case rel => exact ⟨_, (((decide (t269 > 0)) != (decide (t263 > 0)))), (by first | rfl | (simp; done) | (simp [*]; done)), H', ⟨by have := HJ7.out; first | omega | exact Nat.le_refl _⟩, ⟨by (with_reducible repeat first | apply b1 | apply b2 | apply b3); refine blk_far ?_ NB259_272.out _; (with_reducible repeat first | apply b1 | apply b2 | apply b3); refine blk_far ?_ NB259_272.out _; (with_reducible repeat first | apply b1 | apply b2 | apply b3); exact BK259.out⟩, ⟨by (with_reducible repeat first | apply b1 | apply b2 | apply b3); refine blk_far ?_ NB260_272.out _; (with_reducible repeat first | apply b1 | apply b2 | apply b3); refine blk_far ?_ NB260_272.out _; (with_reducible repeat first | apply b1 | apply b2 | apply b3); exact BK260.out⟩, ⟨by (with_reducible repeat first | apply b1 | apply b2 | apply b3); refine blk_far ?_ NB261_272.out _; (with_reducible repeat first | apply b1 | apply b2 | apply b3); refine blk_far ?_ NB261_272.out _; (with_reducible repeat first | apply b1 | apply b2 | apply b3); exact BK261.out⟩, ⟨by (with_reducible repeat first | apply b1 | apply b2 | apply b3); refine blk_put (cs := #[.int .i64 t269, .int .i64 0]) ?_ 1 _ rfl; (with_reducible repeat first | apply b1 | apply b2 | apply b3); refine blk_put (cs := #[.int .i64 0, .int .i64 0]) ?_ 0 _ rfl; (with_reducible repeat first | apply b1 | apply b2 | apply b3); exact BK272.out⟩, ⟨by repeat (first | (with_reducible first | exact HB.out | apply b4 | apply b5 | apply b6 | refine below_set ?_ GE259.out | refine below_set ?_ GE260.out | refine below_set ?_ GE261.out | refine below_set ?_ GE272.out) | exact HB.out)⟩⟩
        ·
         rw [if_neg c78] at H
         have c78b0 : (t271 == 0) = false := beq_eq_false_iff_ne.mpr c78
         have c78b1 : (t271 != 0) = true := bne_iff_ne.mpr c78
         (first | rw [c78b0] | (simp only [i64_w, i32_w]; rw [c78b0]) | skip)
         have H' := Aside0.mk H
         clear H
         go_wp2
         go_meet
         case rel => exact ⟨_, (false), (by first | rfl | (simp; done) | (simp [*]; done)), H', ⟨by have := HJ7.out; first | omega | exact Nat.le_refl _⟩, ⟨by (with_reducible repeat first | apply b1 | apply b2 | apply b3); refine blk_far ?_ NB259_272.out _; (with_reducible repeat first | apply b1 | apply b2 | apply b3); refine blk_far ?_ NB259_272.out _; (with_reducible repeat first | apply b1 | apply b2 | apply b3); exact BK259.out⟩, ⟨by (with_reducible repeat first | apply b1 | apply b2 | apply b3); refine blk_far ?_ NB260_272.out _; (with_reducible repeat first | apply b1 | apply b2 | apply b3); refine blk_far ?_ NB260_272.out _; (with_reducible repeat first | apply b1 | apply b2 | apply b3); exact BK260.out⟩, ⟨by (with_reducible repeat first | apply b1 | apply b2 | apply b3); refine blk_far ?_ NB261_272.out _; (with_reducible repeat first | apply b1 | apply b2 | apply b3); refine blk_far ?_ NB261_272.out _; (with_reducible repeat first | apply b1 | apply b2 | apply b3); exact BK261.out⟩, ⟨by (with_reducible repeat first | apply b1 | apply b2 | apply b3); refine blk_put (cs := #[.int .i64 t269, .int .i64 0]) ?_ 1 _ rfl; (with_reducible repeat first | apply b1 | apply b2 | apply b3); refine blk_put (cs := #[.int .i64 0, .int .i64 0]) ?_ 0 _ rfl; (with_reducible repeat first | apply b1 | apply b2 | apply b3); exact BK272.out⟩, ⟨by repeat (first | (with_reducible first | exact HB.out | apply b4 | apply b5 | apply b6 | refine below_set ?_ GE259.out | refine below_set ?_ GE260.out | refine below_set ?_ GE261.out | refine below_set ?_ GE272.out) | exact HB.out)⟩⟩
       case rest => as_aux_lemma =>
        clear HC66
        try clear c1
        try clear c2
        try clear p2
        try clear c3
        try clear c4
        try clear c5
        try clear c6
        try clear p6
        try clear c7
        try clear c8
        try clear c10
        try clear c13
        try clear c14
        try clear c15
        try clear c16
        try clear c23
        try clear c25
        try clear c25b0
        try clear c25b1
        try clear c25b2
        try clear c26
        try clear c27
        try clear c30
        try clear c33
        try clear c33b0
        try clear c33b1
        try clear c33b2
        try clear c34
        try clear c35
        try clear c38
        try clear c41
        try clear c42
        try clear c45
        try clear c48
        try clear c49
        try clear c50
        try clear c53
        try clear c54
        try clear c55
        try clear c58
        try clear c59
        try clear c62
        try clear c63
        try clear c64
        try clear c64b0
        try clear c64b1
        try clear c64b2
        try clear p64
        try clear c67
        try clear c68
        try clear c70
        try clear c74
        try clear c75
        try clear c76
        try clear c78
        try clear c78b0
        try clear c78b1
        try clear c79
        try clear c80
        try clear c81
        try clear hcz15_0
        try clear hcz15_1
        try clear hcz17_0
        try clear hcz17_1
        try clear hcz19_0
        try clear hcz19_1
        try clear hcz20_0
        try clear hcz20_1
        try clear hcz28_0
        try clear hcz28_1
        try clear hcz31_0
        try clear hcz31_1
        try clear hcz36_0
        try clear hcz36_1
        try clear hcz39_0
        try clear hcz39_1
        try clear hcz43_0
        try clear hcz43_1
        try clear hcz46_0
        try clear hcz46_1
        try clear hcz51_0
        try clear hcz51_1
        try clear hcz56_0
        try clear hcz56_1
        try clear hcz60_0
        try clear hcz60_1
        try clear hcz69_0
        try clear hcz69_1
        try clear hcz71_0
        try clear hcz71_1
        try clear hcz77_0
        try clear hcz77_1
        try clear hcz82_0
        try clear hcz82_1
        try clear hfz15_0
        try clear hfz15_1
        try clear hfz17_0
        try clear hfz17_1
        try clear hfz19_0
        try clear hfz19_1
        try clear hfz20_0
        try clear hfz20_1
        try clear hfz28_0
        try clear hfz28_1
        try clear hfz31_0
        try clear hfz31_1
        try clear hfz36_0
        try clear hfz36_1
        try clear hfz39_0
        try clear hfz39_1
        try clear hfz43_0
        try clear hfz43_1
        try clear hfz46_0
        try clear hfz46_1
        try clear hfz51_0
        try clear hfz51_1
        try clear hfz56_0
        try clear hfz56_1
        try clear hfz60_0
        try clear hfz60_1
        try clear hfz69_0
        try clear hfz69_1
        try clear hfz71_0
        try clear hfz71_1
        try clear hfz77_0
        try clear hfz77_1
        try clear hfz82_0
        try clear hfz82_1
        try clear p2
        try clear p6
        obtain ⟨kq, x83_65, rfl, HA, HJ65, BK259, BK260, BK261, BK272, HB⟩ := hcut
        cases kq with
        | zero => exact absurd HA.out (by simp [assessorlaw46_FractionOrder.j1])
        | succ kj65 =>
         have H := HA.out
         clear HA
         simp only [assessorlaw46_FractionOrder.j1] at H
         by_cases c83 : x83_65 = true
         ·
          subst c83
          have H1 : (some false) = some r := by rw [if_pos rfl] at H; exact H
          clear H
          have H := H1
          clear H1
          obtain rfl := Option.some.inj H
          exact absurd hr_.out (by simp)
         ·
          replace c83 := Bool.eq_false_iff.mpr c83
          subst c83
          have H1 : ((fraction_Compare.f kj65 a1_0 a1_1 a2_0 a2_1).bind fun bt273 => ((fraction_Compare.f kj65 a0_0 a0_1 a2_0 a2_1).bind fun bt275 => (if bt273.2 = true then (if bt275.2 = true then (if t263 ≤ 0 then (if bt273.1 ≤ 0 then (assessorlaw46_FractionOrder.j2 kj65 t263 (decide (bt275.1 > 0)) a0_0 a0_1 a1_0 a1_1 a2_0 a2_1) else (assessorlaw46_FractionOrder.j2 kj65 t263 false a0_0 a0_1 a1_0 a1_1 a2_0 a2_1)) else (assessorlaw46_FractionOrder.j2 kj65 t263 false a0_0 a0_1 a1_0 a1_1 a2_0 a2_1)) else (assessorlaw46_FractionOrder.j2 kj65 t263 false a0_0 a0_1 a1_0 a1_1 a2_0 a2_1)) else (assessorlaw46_FractionOrder.j2 kj65 t263 false a0_0 a0_1 a1_0 a1_1 a2_0 a2_1)))) = some r := by rw [if_neg (show ¬ (false = true) by decide)] at H; exact H
          clear H
          have H := H1
          clear H1
          replace H := Option.bind_eq_some_iff.mp H
          obtain ⟨⟨t273, t274⟩, A840, H⟩ := H
          replace H : ((fraction_Compare.f kj65 a0_0 a0_1 a2_0 a2_1).bind fun bt275 => (if t274 = true then (if bt275.2 = true then (if t263 ≤ 0 then (if t273 ≤ 0 then (assessorlaw46_FractionOrder.j2 kj65 t263 (decide (bt275.1 > 0)) a0_0 a0_1 a1_0 a1_1 a2_0 a2_1) else (assessorlaw46_FractionOrder.j2 kj65 t263 false a0_0 a0_1 a1_0 a1_1 a2_0 a2_1)) else (assessorlaw46_FractionOrder.j2 kj65 t263 false a0_0 a0_1 a1_0 a1_1 a2_0 a2_1)) else (assessorlaw46_FractionOrder.j2 kj65 t263 false a0_0 a0_1 a1_0 a1_1 a2_0 a2_1)) else (assessorlaw46_FractionOrder.j2 kj65 t263 false a0_0 a0_1 a1_0 a1_1 a2_0 a2_1))) = some r := H
          have A84 := Aside0.mk A840
          clear A840
          replace H := Option.bind_eq_some_iff.mp H
          obtain ⟨⟨t275, t276⟩, A850, H⟩ := H
          replace H : (if t274 = true then (if t276 = true then (if t263 ≤ 0 then (if t273 ≤ 0 then (assessorlaw46_FractionOrder.j2 kj65 t263 (decide (t275 > 0)) a0_0 a0_1 a1_0 a1_1 a2_0 a2_1) else (assessorlaw46_FractionOrder.j2 kj65 t263 false a0_0 a0_1 a1_0 a1_1 a2_0 a2_1)) else (assessorlaw46_FractionOrder.j2 kj65 t263 false a0_0 a0_1 a1_0 a1_1 a2_0 a2_1)) else (assessorlaw46_FractionOrder.j2 kj65 t263 false a0_0 a0_1 a1_0 a1_1 a2_0 a2_1)) else (assessorlaw46_FractionOrder.j2 kj65 t263 false a0_0 a0_1 a1_0 a1_1 a2_0 a2_1)) = some r := H
          have A85 := Aside0.mk A850
          clear A850
          have HC86 := Aside0.mk H
          clear H
          have hnb87 := NB260_259.out
          have hnc87 := NB259_260.out
          have hnb88 := NB260_261.out
          have hnc88 := NB261_260.out
          have hnb89 := NB260_272.out
          have hnc89 := NB272_260.out
          have hcz90_0 : wc.cell? ⟨gb260, 0, none⟩ = some (.int .i64 a1_0) := (blk_cell BK260.out 0).trans rfl
          have hcz90_1 : wc.cell? ⟨gb260, 1, none⟩ = some (.int .i64 a1_1) := (blk_cell BK260.out 1).trans rfl
          have hfz90_0 := blk_frozen BK260.out 0
          have hfz90_1 := blk_frozen BK260.out 1
          have hnb91 := NB261_259.out
          have hnc91 := NB259_261.out
          have hnb92 := NB261_272.out
          have hnc92 := NB272_261.out
          have hcz93_0 : wc.cell? ⟨gb261, 0, none⟩ = some (.int .i64 a2_0) := (blk_cell BK261.out 0).trans rfl
          have hcz93_1 : wc.cell? ⟨gb261, 1, none⟩ = some (.int .i64 a2_1) := (blk_cell BK261.out 1).trans rfl
          have hfz93_0 := blk_frozen BK261.out 0
          have hfz93_1 := blk_frozen BK261.out 1
          go_upto_region 16 with (first | ((with_reducible refine gate_callee (f := 27) rfl ?_); refine goesL_ (some 87) rfl rfl Tryd.func27 (by kernel_rfl) rfl #[.agg #[.int .i64 a1_0, .int .i64 a1_1], .agg #[.int .i64 a2_0, .int .i64 a2_1]] rfl (by (try simp only [List.map_toArray, List.map_cons, List.map_nil]); first | done | rfl | (simp only [List.length_drop, List.length_take]; rfl)) ?_; (with_reducible refine (fraction_Compare.calls kj65 a1_0 a1_1 a2_0 a2_1 t273 t274 _ A84.out).mono ?_); rintro e w94 ⟨rfl, hb⟩; refine ⟨_, rfl, ?_⟩; have n0_ := Aside0.mk (blk_below (g := gb259) (o := .cells #[.int .i64 a0_0, .int .i64 a0_1] 23 (0, 0)) (by (with_reducible repeat first | apply b1 | apply b2 | apply b3); exact BK259.out) hb); have n1_ := Aside0.mk (blk_below (g := gb260) (o := .cells #[.int .i64 a1_0, .int .i64 a1_1] 23 (0, 0)) (by (with_reducible repeat first | apply b1 | apply b2 | apply b3); exact BK260.out) hb); have n2_ := Aside0.mk (blk_below (g := gb261) (o := .cells #[.int .i64 a2_0, .int .i64 a2_1] 23 (0, 0)) (by (with_reducible repeat first | apply b1 | apply b2 | apply b3); exact BK261.out) hb); have n3_ := Aside0.mk (blk_below (g := gb272) (o := .cells #[.int .i64 t269, .int .i64 t270] 23 (0, 0)) (by (with_reducible repeat first | apply b1 | apply b2 | apply b3); exact BK272.out) hb); have n4_ := Aside0.mk (below_step (by repeat (first | (with_reducible first | exact HB.out | apply b4 | apply b5 | apply b6 | refine below_set ?_ GE259.out | refine below_set ?_ GE260.out | refine below_set ?_ GE261.out | refine below_set ?_ GE272.out) | exact HB.out)) hb); clear BK259; clear BK260; clear BK261; clear BK272; clear HB; have BK259 := n0_; have BK260 := n1_; have BK261 := n2_; have BK272 := n3_; have HB := n4_; clear n0_ n1_ n2_ n3_ n4_; (try clear hb); (try clear hb2); (try clear hk); (try clear hi); have hnb95 := NB259_272.out; have hnc95 := NB272_259.out; have hcz96_0 : w94.cell? ⟨gb259, 0, none⟩ = some (.int .i64 a0_0) := (blk_cell BK259.out 0).trans rfl; have hcz96_1 : w94.cell? ⟨gb259, 1, none⟩ = some (.int .i64 a0_1) := (blk_cell BK259.out 1).trans rfl; have hfz96_0 := blk_frozen BK259.out 0; have hfz96_1 := blk_frozen BK259.out 1; have hcz97_0 : w94.cell? ⟨gb261, 0, none⟩ = some (.int .i64 a2_0) := (blk_cell BK261.out 0).trans rfl; have hcz97_1 : w94.cell? ⟨gb261, 1, none⟩ = some (.int .i64 a2_1) := (blk_cell BK261.out 1).trans rfl; have hfz97_0 := blk_frozen BK261.out 0; have hfz97_1 := blk_frozen BK261.out 1) | ((with_reducible refine gate_callee (f := 27) rfl ?_); refine goesL_ (some 93) rfl rfl Tryd.func27 (by kernel_rfl) rfl #[.agg #[.int .i64 a0_0, .int .i64 a0_1], .agg #[.int .i64 a2_0, .int .i64 a2_1]] rfl (by (try simp only [List.map_toArray, List.map_cons, List.map_nil]); first | done | rfl | (simp only [List.length_drop, List.length_take]; rfl)) ?_; (with_reducible refine (fraction_Compare.calls kj65 a0_0 a0_1 a2_0 a2_1 t275 t276 _ A85.out).mono ?_); rintro e w98 ⟨rfl, hb⟩; refine ⟨_, rfl, ?_⟩; have n0_ := Aside0.mk (blk_below (g := gb259) (o := .cells #[.int .i64 a0_0, .int .i64 a0_1] 23 (0, 0)) (by (with_reducible repeat first | apply b1 | apply b2 | apply b3); exact BK259.out) hb); have n1_ := Aside0.mk (blk_below (g := gb260) (o := .cells #[.int .i64 a1_0, .int .i64 a1_1] 23 (0, 0)) (by (with_reducible repeat first | apply b1 | apply b2 | apply b3); exact BK260.out) hb); have n2_ := Aside0.mk (blk_below (g := gb261) (o := .cells #[.int .i64 a2_0, .int .i64 a2_1] 23 (0, 0)) (by (with_reducible repeat first | apply b1 | apply b2 | apply b3); exact BK261.out) hb); have n3_ := Aside0.mk (blk_below (g := gb272) (o := .cells #[.int .i64 t269, .int .i64 t270] 23 (0, 0)) (by (with_reducible repeat first | apply b1 | apply b2 | apply b3); exact BK272.out) hb); have n4_ := Aside0.mk (below_step (by repeat (first | (with_reducible first | exact HB.out | apply b4 | apply b5 | apply b6 | refine below_set ?_ GE259.out | refine below_set ?_ GE260.out | refine below_set ?_ GE261.out | refine below_set ?_ GE272.out) | exact HB.out)) hb); clear BK259; clear BK260; clear BK261; clear BK272; clear HB; have BK259 := n0_; have BK260 := n1_; have BK261 := n2_; have BK272 := n3_; have HB := n4_; clear n0_ n1_ n2_ n3_ n4_; (try clear hb); (try clear hb2); (try clear hk); (try clear hi)))
          (try simp only [Act.put, List.setIfInBounds_toArray, List.set_cons_zero, List.set_cons_succ])
          go_cut [111] (fun v111 wc => ∃ (kq : Nat) (x111_85 : Bool), v111 = .bool x111_85 ∧ Aside0 (assessorlaw46_FractionOrder.j2 kq t263 x111_85 a0_0 a0_1 a1_0 a1_1 a2_0 a2_1 = some r) ∧ Aside0 (kq ≤ kj65) ∧ Aside0 (wc.heap[gb259]? = some (.cells #[.int .i64 a0_0, .int .i64 a0_1] 23 (0, 0))) ∧ Aside0 (wc.heap[gb260]? = some (.cells #[.int .i64 a1_0, .int .i64 a1_1] 23 (0, 0))) ∧ Aside0 (wc.heap[gb261]? = some (.cells #[.int .i64 a2_0, .int .i64 a2_1] 23 (0, 0))) ∧ Aside0 (wc.heap[gb272]? = some (.cells #[.int .i64 t269, .int .i64 t270] 23 (0, 0))) ∧ Aside0 (Below w.heap.size w wc))
          case first => as_aux_lemma =>
           have H := HC86.out
           clear HC86
           by_cases c99 : t274 = true
           ·
            subst c99
            have H1 : (if t276 = true then (if t263 ≤ 0 then (if t273 ≤ 0 then (assessorlaw46_FractionOrder.j2 kj65 t263 (decide (t275 > 0)) a0_0 a0_1 a1_0 a1_1 a2_0 a2_1) else (assessorlaw46_FractionOrder.j2 kj65 t263 false a0_0 a0_1 a1_0 a1_1 a2_0 a2_1)) else (assessorlaw46_FractionOrder.j2 kj65 t263 false a0_0 a0_1 a1_0 a1_1 a2_0 a2_1)) else (assessorlaw46_FractionOrder.j2 kj65 t263 false a0_0 a0_1 a1_0 a1_1 a2_0 a2_1)) = some r := by rw [if_pos rfl] at H; exact H
            clear H
            have H := H1
            clear H1
            by_cases c100 : t276 = true
            ·
             subst c100
             have H1 : (if t263 ≤ 0 then (if t273 ≤ 0 then (assessorlaw46_FractionOrder.j2 kj65 t263 (decide (t275 > 0)) a0_0 a0_1 a1_0 a1_1 a2_0 a2_1) else (assessorlaw46_FractionOrder.j2 kj65 t263 false a0_0 a0_1 a1_0 a1_1 a2_0 a2_1)) else (assessorlaw46_FractionOrder.j2 kj65 t263 false a0_0 a0_1 a1_0 a1_1 a2_0 a2_1)) = some r := by rw [if_pos rfl] at H; exact H
             clear H
             have H := H1
             clear H1
             by_cases c101 : t263 ≤ 0
             ·
              rw [if_pos c101] at H
              have c101b0 : decide (t263 ≤ 0) = true := decide_eq_true c101
              clear c101
              (first | rw [c101b0] | (simp only [i64_w, i32_w]; rw [c101b0]) | skip)
              by_cases c102 : t273 ≤ 0
              ·
               rw [if_pos c102] at H
               have c102b0 : decide (t273 ≤ 0) = true := decide_eq_true c102
               clear c102
               have H' := Aside0.mk H
               clear H
               go_wp2
               go_meet
               case rel => exact ⟨_, (decide (t275 > 0)), (by first | rfl | (simp; done) | (simp [*]; done)), H', ⟨by have := HJ7.out; have := HJ65.out; first | omega | exact Nat.le_refl _⟩, ⟨by (with_reducible repeat first | apply b1 | apply b2 | apply b3); exact BK259.out⟩, ⟨by (with_reducible repeat first | apply b1 | apply b2 | apply b3); exact BK260.out⟩, ⟨by (with_reducible repeat first | apply b1 | apply b2 | apply b3); exact BK261.out⟩, ⟨by (with_reducible repeat first | apply b1 | apply b2 | apply b3); exact BK272.out⟩, ⟨by repeat (first | (with_reducible first | exact HB.out | apply b4 | apply b5 | apply b6 | refine below_set ?_ GE259.out | refine below_set ?_ GE260.out | refine below_set ?_ GE261.out | refine below_set ?_ GE272.out) | exact HB.out)⟩⟩
              ·
               rw [if_neg c102] at H
               have c102b0 : decide (t273 ≤ 0) = false := decide_eq_false c102
               clear c102
               have H' := Aside0.mk H
               clear H
               go_wp2
               go_meet
               case rel => exact ⟨_, (false), (by first | rfl | (simp; done) | (simp [*]; done)), H', ⟨by have := HJ7.out; have := HJ65.out; first | omega | exact Nat.le_refl _⟩, ⟨by (with_reducible repeat first | apply b1 | apply b2 | apply b3); exact BK259.out⟩, ⟨by (with_reducible repeat first | apply b1 | apply b2 | apply b3); exact BK260.out⟩, ⟨by (with_reducible repeat first | apply b1 | apply b2 | apply b3); exact BK261.out⟩, ⟨by (with_reducible repeat first | apply b1 | apply b2 | apply b3); exact BK272.out⟩, ⟨by repeat (first | (with_reducible first | exact HB.out | apply b4 | apply b5 | apply b6 | refine below_set ?_ GE259.out | refine below_set ?_ GE260.out | refine below_set ?_ GE261.out | refine below_set ?_ GE272.out) | exact HB.out)⟩⟩
             ·
              rw [if_neg c101] at H
              have c101b0 : decide (t263 ≤ 0) = false := decide_eq_false c101
              clear c101
              (first | rw [c101b0] | (simp only [i64_w, i32_w]; rw [c101b0]) | skip)
              have H' := Aside0.mk H
              clear H
              go_wp2
              go_meet
              case rel => exact ⟨_, (false), (by first | rfl | (simp; done) | (simp [*]; done)), H', ⟨by have := HJ7.out; have := HJ65.out; first | omega | exact Nat.le_refl _⟩, ⟨by (with_reducible repeat first | apply b1 | apply b2 | apply b3); exact BK259.out⟩, ⟨by (with_reducible repeat first | apply b1 | apply b2 | apply b3); exact BK260.out⟩, ⟨by (with_reducible repeat first | apply b1 | apply b2 | apply b3); exact BK261.out⟩, ⟨by (with_reducible repeat first | apply b1 | apply b2 | apply b3); exact BK272.out⟩, ⟨by repeat (first | (with_reducible first | exact HB.out | apply b4 | apply b5 | apply b6 | refine below_set ?_ GE259.out | refine below_set ?_ GE260.out | refine below_set ?_ GE261.out | refine below_set ?_ GE272.out) | exact HB.out)⟩⟩
            ·
             replace c100 := Bool.eq_false_iff.mpr c100
             subst c100
             have H1 : (assessorlaw46_FractionOrder.j2 kj65 t263 false a0_0 a0_1 a1_0 a1_1 a2_0 a2_1) = some r := by rw [if_neg (show ¬ (false = true) by decide)] at H; exact H
             clear H
             have H := H1
             clear H1
             have H' := Aside0.mk H
             clear H
             go_wp2
             go_meet
             case rel => exact ⟨_, (false), (by first | rfl | (simp; done) | (simp [*]; done)), H', ⟨by have := HJ7.out; have := HJ65.out; first | omega | exact Nat.le_refl _⟩, ⟨by (with_reducible repeat first | apply b1 | apply b2 | apply b3); exact BK259.out⟩, ⟨by (with_reducible repeat first | apply b1 | apply b2 | apply b3); exact BK260.out⟩, ⟨by (with_reducible repeat first | apply b1 | apply b2 | apply b3); exact BK261.out⟩, ⟨by (with_reducible repeat first | apply b1 | apply b2 | apply b3); exact BK272.out⟩, ⟨by repeat (first | (with_reducible first | exact HB.out | apply b4 | apply b5 | apply b6 | refine below_set ?_ GE259.out | refine below_set ?_ GE260.out | refine below_set ?_ GE261.out | refine below_set ?_ GE272.out) | exact HB.out)⟩⟩
           ·
            replace c99 := Bool.eq_false_iff.mpr c99
            subst c99
            have H1 : (assessorlaw46_FractionOrder.j2 kj65 t263 false a0_0 a0_1 a1_0 a1_1 a2_0 a2_1) = some r := by rw [if_neg (show ¬ (false = true) by decide)] at H; exact H
            clear H
            have H := H1
            clear H1
            have H' := Aside0.mk H
            clear H
            go_wp2
            go_meet
            case rel => exact ⟨_, (false), (by first | rfl | (simp; done) | (simp [*]; done)), H', ⟨by have := HJ7.out; have := HJ65.out; first | omega | exact Nat.le_refl _⟩, ⟨by (with_reducible repeat first | apply b1 | apply b2 | apply b3); exact BK259.out⟩, ⟨by (with_reducible repeat first | apply b1 | apply b2 | apply b3); exact BK260.out⟩, ⟨by (with_reducible repeat first | apply b1 | apply b2 | apply b3); exact BK261.out⟩, ⟨by (with_reducible repeat first | apply b1 | apply b2 | apply b3); exact BK272.out⟩, ⟨by repeat (first | (with_reducible first | exact HB.out | apply b4 | apply b5 | apply b6 | refine below_set ?_ GE259.out | refine below_set ?_ GE260.out | refine below_set ?_ GE261.out | refine below_set ?_ GE272.out) | exact HB.out)⟩⟩
          case rest => as_aux_lemma =>
           clear HC86
           try clear c1
           try clear c2
           try clear p2
           try clear c3
           try clear c4
           try clear c5
           try clear c6
           try clear p6
           try clear c7
           try clear c8
           try clear c9
           try clear c10
           try clear c13
           try clear c14
           try clear c15
           try clear c16
           try clear c23
           try clear c25
           try clear c25b0
           try clear c25b1
           try clear c25b2
           try clear c26
           try clear c27
           try clear c30
           try clear c33
           try clear c33b0
           try clear c33b1
           try clear c33b2
           try clear c34
           try clear c35
           try clear c38
           try clear c41
           try clear c42
           try clear c45
           try clear c48
           try clear c49
           try clear c50
           try clear c53
           try clear c54
           try clear c55
           try clear c58
           try clear c59
           try clear c62
           try clear c63
           try clear c64
           try clear c64b0
           try clear c64b1
           try clear c64b2
           try clear p64
           try clear c67
           try clear c68
           try clear c70
           try clear c74
           try clear c75
           try clear c76
           try clear c78
           try clear c78b0
           try clear c78b1
           try clear c79
           try clear c80
           try clear c81
           try clear c83
           try clear c87
           try clear c88
           try clear c89
           try clear c91
           try clear c92
           try clear c95
           try clear c99
           try clear c100
           try clear c101
           try clear c101b0
           try clear c102
           try clear c102b0
           try clear hcz15_0
           try clear hcz15_1
           try clear hcz17_0
           try clear hcz17_1
           try clear hcz19_0
           try clear hcz19_1
           try clear hcz20_0
           try clear hcz20_1
           try clear hcz28_0
           try clear hcz28_1
           try clear hcz31_0
           try clear hcz31_1
           try clear hcz36_0
           try clear hcz36_1
           try clear hcz39_0
           try clear hcz39_1
           try clear hcz43_0
           try clear hcz43_1
           try clear hcz46_0
           try clear hcz46_1
           try clear hcz51_0
           try clear hcz51_1
           try clear hcz56_0
           try clear hcz56_1
           try clear hcz60_0
           try clear hcz60_1
           try clear hcz69_0
           try clear hcz69_1
           try clear hcz71_0
           try clear hcz71_1
           try clear hcz77_0
           try clear hcz77_1
           try clear hcz82_0
           try clear hcz82_1
           try clear hcz90_0
           try clear hcz90_1
           try clear hcz93_0
           try clear hcz93_1
           try clear hcz96_0
           try clear hcz96_1
           try clear hcz97_0
           try clear hcz97_1
           try clear hfz15_0
           try clear hfz15_1
           try clear hfz17_0
           try clear hfz17_1
           try clear hfz19_0
           try clear hfz19_1
           try clear hfz20_0
           try clear hfz20_1
           try clear hfz28_0
           try clear hfz28_1
           try clear hfz31_0
           try clear hfz31_1
           try clear hfz36_0
           try clear hfz36_1
           try clear hfz39_0
           try clear hfz39_1
           try clear hfz43_0
           try clear hfz43_1
           try clear hfz46_0
           try clear hfz46_1
           try clear hfz51_0
           try clear hfz51_1
           try clear hfz56_0
           try clear hfz56_1
           try clear hfz60_0
           try clear hfz60_1
           try clear hfz69_0
           try clear hfz69_1
           try clear hfz71_0
           try clear hfz71_1
           try clear hfz77_0
           try clear hfz77_1
           try clear hfz82_0
           try clear hfz82_1
           try clear hfz90_0
           try clear hfz90_1
           try clear hfz93_0
           try clear hfz93_1
           try clear hfz96_0
           try clear hfz96_1
           try clear hfz97_0
           try clear hfz97_1
           try clear p2
           try clear p6
           try clear p64
           obtain ⟨kq, x111_85, rfl, HA, HJ85, BK259, BK260, BK261, BK272, HB⟩ := hcut
           cases kq with
           | zero => exact absurd HA.out (by simp [assessorlaw46_FractionOrder.j2])
           | succ kj85 =>
            have H := HA.out
            clear HA
            simp only [assessorlaw46_FractionOrder.j2] at H
            by_cases c103 : x111_85 = true
            ·
             subst c103
             have H1 : (some false) = some r := by rw [if_pos rfl] at H; exact H
             clear H
             have H := H1
             clear H1
             obtain rfl := Option.some.inj H
             exact absurd hr_.out (by simp)
            ·
             replace c103 := Bool.eq_false_iff.mpr c103
             subst c103
             have H1 : ((fraction_Add.f kj85 a0_0 a0_1 a2_0 a2_1).bind fun bt277 => ((fraction_Add.f kj85 a1_0 a1_1 a2_0 a2_1).bind fun bt281 => ((fraction_Compare.f kj85 bt277.1 bt277.2.1 bt281.1 bt281.2.1).bind fun bt285 => (if bt277.2.2 = 0 then (if bt281.2.2 = 0 then (if bt285.2 = true then (assessorlaw46_FractionOrder.j3 kj85 t263 (bt285.1 != t263) a0_0 a0_1 a1_0 a1_1 a2_0 a2_1) else (assessorlaw46_FractionOrder.j3 kj85 t263 true a0_0 a0_1 a1_0 a1_1 a2_0 a2_1)) else (assessorlaw46_FractionOrder.j3 kj85 t263 false a0_0 a0_1 a1_0 a1_1 a2_0 a2_1)) else (assessorlaw46_FractionOrder.j3 kj85 t263 false a0_0 a0_1 a1_0 a1_1 a2_0 a2_1))))) = some r := by rw [if_neg (show ¬ (false = true) by decide)] at H; exact H
             clear H
             have H := H1
             clear H1
             replace H := Option.bind_eq_some_iff.mp H
             obtain ⟨⟨t277, t278, t279⟩, A1040, H⟩ := H
             replace H : ((fraction_Add.f kj85 a1_0 a1_1 a2_0 a2_1).bind fun bt281 => ((fraction_Compare.f kj85 t277 t278 bt281.1 bt281.2.1).bind fun bt285 => (if t279 = 0 then (if bt281.2.2 = 0 then (if bt285.2 = true then (assessorlaw46_FractionOrder.j3 kj85 t263 (bt285.1 != t263) a0_0 a0_1 a1_0 a1_1 a2_0 a2_1) else (assessorlaw46_FractionOrder.j3 kj85 t263 true a0_0 a0_1 a1_0 a1_1 a2_0 a2_1)) else (assessorlaw46_FractionOrder.j3 kj85 t263 false a0_0 a0_1 a1_0 a1_1 a2_0 a2_1)) else (assessorlaw46_FractionOrder.j3 kj85 t263 false a0_0 a0_1 a1_0 a1_1 a2_0 a2_1)))) = some r := H
             have A104 := Aside0.mk A1040
             clear A1040
             replace H := Option.bind_eq_some_iff.mp H
             obtain ⟨⟨t281, t282, t283⟩, A1050, H⟩ := H
             replace H : ((fraction_Compare.f kj85 t277 t278 t281 t282).bind fun bt285 => (if t279 = 0 then (if t283 = 0 then (if bt285.2 = true then (assessorlaw46_FractionOrder.j3 kj85 t263 (bt285.1 != t263) a0_0 a0_1 a1_0 a1_1 a2_0 a2_1) else (assessorlaw46_FractionOrder.j3 kj85 t263 true a0_0 a0_1 a1_0 a1_1 a2_0 a2_1)) else (assessorlaw46_FractionOrder.j3 kj85 t263 false a0_0 a0_1 a1_0 a1_1 a2_0 a2_1)) else (assessorlaw46_FractionOrder.j3 kj85 t263 false a0_0 a0_1 a1_0 a1_1 a2_0 a2_1))) = some r := H
             have A105 := Aside0.mk A1050
             clear A1050
             replace H := Option.bind_eq_some_iff.mp H
             obtain ⟨⟨t285, t286⟩, A1060, H⟩ := H
             replace H : (if t279 = 0 then (if t283 = 0 then (if t286 = true then (assessorlaw46_FractionOrder.j3 kj85 t263 (t285 != t263) a0_0 a0_1 a1_0 a1_1 a2_0 a2_1) else (assessorlaw46_FractionOrder.j3 kj85 t263 true a0_0 a0_1 a1_0 a1_1 a2_0 a2_1)) else (assessorlaw46_FractionOrder.j3 kj85 t263 false a0_0 a0_1 a1_0 a1_1 a2_0 a2_1)) else (assessorlaw46_FractionOrder.j3 kj85 t263 false a0_0 a0_1 a1_0 a1_1 a2_0 a2_1)) = some r := H
             have A106 := Aside0.mk A1060
             clear A1060
             have HC107 := Aside0.mk H
             clear H
             have hnb108 := NB259_260.out
             have hnc108 := NB260_259.out
             have hnb109 := NB259_261.out
             have hnc109 := NB261_259.out
             have hnb110 := NB259_272.out
             have hnc110 := NB272_259.out
             have hcz111_0 : wc.cell? ⟨gb259, 0, none⟩ = some (.int .i64 a0_0) := (blk_cell BK259.out 0).trans rfl
             have hcz111_1 : wc.cell? ⟨gb259, 1, none⟩ = some (.int .i64 a0_1) := (blk_cell BK259.out 1).trans rfl
             have hfz111_0 := blk_frozen BK259.out 0
             have hfz111_1 := blk_frozen BK259.out 1
             have hnb112 := NB261_260.out
             have hnc112 := NB260_261.out
             have hnb113 := NB261_272.out
             have hnc113 := NB272_261.out
             have hcz114_0 : wc.cell? ⟨gb261, 0, none⟩ = some (.int .i64 a2_0) := (blk_cell BK261.out 0).trans rfl
             have hcz114_1 : wc.cell? ⟨gb261, 1, none⟩ = some (.int .i64 a2_1) := (blk_cell BK261.out 1).trans rfl
             have hfz114_0 := blk_frozen BK261.out 0
             have hfz114_1 := blk_frozen BK261.out 1
             go_upto_region 21 with (first | ((with_reducible refine gate_callee (f := 21) rfl ?_); refine goesL_ (some 115) rfl rfl Tryd.func21 (by kernel_rfl) rfl #[.agg #[.int .i64 a0_0, .int .i64 a0_1], .agg #[.int .i64 a2_0, .int .i64 a2_1]] rfl (by (try simp only [List.map_toArray, List.map_cons, List.map_nil]); first | done | rfl | (simp only [List.length_drop, List.length_take]; rfl)) ?_; (with_reducible refine (fraction_Add.calls kj85 a0_0 a0_1 a2_0 a2_1 t277 t278 t279 _ A104.out).mono ?_); rintro e w115 ⟨rfl, hb⟩; refine ⟨_, rfl, ?_⟩; have n0_ := Aside0.mk (blk_below (g := gb259) (o := .cells #[.int .i64 a0_0, .int .i64 a0_1] 23 (0, 0)) (by (with_reducible repeat first | apply b1 | apply b2 | apply b3); exact BK259.out) hb); have n1_ := Aside0.mk (blk_below (g := gb260) (o := .cells #[.int .i64 a1_0, .int .i64 a1_1] 23 (0, 0)) (by (with_reducible repeat first | apply b1 | apply b2 | apply b3); exact BK260.out) hb); have n2_ := Aside0.mk (blk_below (g := gb261) (o := .cells #[.int .i64 a2_0, .int .i64 a2_1] 23 (0, 0)) (by (with_reducible repeat first | apply b1 | apply b2 | apply b3); exact BK261.out) hb); have n3_ := Aside0.mk (blk_below (g := gb272) (o := .cells #[.int .i64 t269, .int .i64 t270] 23 (0, 0)) (by (with_reducible repeat first | apply b1 | apply b2 | apply b3); exact BK272.out) hb); have n4_ := Aside0.mk (below_step (by repeat (first | (with_reducible first | exact HB.out | apply b4 | apply b5 | apply b6 | refine below_set ?_ GE259.out | refine below_set ?_ GE260.out | refine below_set ?_ GE261.out | refine below_set ?_ GE272.out) | exact HB.out)) hb); clear BK259; clear BK260; clear BK261; clear BK272; clear HB; have BK259 := n0_; have BK260 := n1_; have BK261 := n2_; have BK272 := n3_; have HB := n4_; clear n0_ n1_ n2_ n3_ n4_; (try clear hb); (try clear hb2); (try clear hk); (try clear hi)) | ((with_reducible refine gate_dst (N := 15) rfl ?_); refine box_event ?hg (N := 15) ?hd (cs := #[.int .i64 0, .int .i64 0]) (t := 23) ?hr ?_; (case hd => rfl); (case hg => rfl); (case hr => first | (go_simp; done) | (go_simp; rfl)); intro gb280 hg w116 hbox hb; have n0_ := Aside0.mk (blk_below (g := gb259) (o := .cells #[.int .i64 a0_0, .int .i64 a0_1] 23 (0, 0)) (by (with_reducible repeat first | apply b1 | apply b2 | apply b3); exact BK259.out) hb); have n1_ := Aside0.mk (blk_below (g := gb260) (o := .cells #[.int .i64 a1_0, .int .i64 a1_1] 23 (0, 0)) (by (with_reducible repeat first | apply b1 | apply b2 | apply b3); exact BK260.out) hb); have n2_ := Aside0.mk (blk_below (g := gb261) (o := .cells #[.int .i64 a2_0, .int .i64 a2_1] 23 (0, 0)) (by (with_reducible repeat first | apply b1 | apply b2 | apply b3); exact BK261.out) hb); have n3_ := Aside0.mk (blk_below (g := gb272) (o := .cells #[.int .i64 t269, .int .i64 t270] 23 (0, 0)) (by (with_reducible repeat first | apply b1 | apply b2 | apply b3); exact BK272.out) hb); have n4_ := Aside0.mk (below_step (by repeat (first | (with_reducible first | exact HB.out | apply b4 | apply b5 | apply b6 | refine below_set ?_ GE259.out | refine below_set ?_ GE260.out | refine below_set ?_ GE261.out | refine below_set ?_ GE272.out) | exact HB.out)) hb); have n5_ := Aside0.mk (hbox); have n6_ := Aside0.mk ((by rw [hg]; exact (below_size (by repeat (first | (with_reducible first | exact HB.out | apply b4 | apply b5 | apply b6 | refine below_set ?_ GE259.out | refine below_set ?_ GE260.out | refine below_set ?_ GE261.out | refine below_set ?_ GE272.out) | exact HB.out))) : w.heap.size ≤ gb280)); have n7_ := Aside0.mk ((by rw [hg]; exact (below_size (by repeat (first | (with_reducible first | exact HB.out | apply b4 | apply b5 | apply b6 | refine below_set ?_ GE259.out | refine below_set ?_ GE260.out | refine below_set ?_ GE261.out | refine below_set ?_ GE272.out) | exact HB.out))) : w.heap.size ≤ gb280)); have n8_ := Aside0.mk ((by rw [hg]; exact Nat.ne_of_lt (blk_lt (g := gb259) (o := .cells #[.int .i64 a0_0, .int .i64 a0_1] 23 (0, 0)) (by (with_reducible repeat first | apply b1 | apply b2 | apply b3); exact BK259.out)) : gb259 ≠ gb280)); have n9_ := Aside0.mk ((by rw [hg]; exact Nat.ne_of_gt (blk_lt (g := gb259) (o := .cells #[.int .i64 a0_0, .int .i64 a0_1] 23 (0, 0)) (by (with_reducible repeat first | apply b1 | apply b2 | apply b3); exact BK259.out)) : gb280 ≠ gb259)); have n10_ := Aside0.mk ((by rw [hg]; exact Nat.ne_of_lt (blk_lt (g := gb260) (o := .cells #[.int .i64 a1_0, .int .i64 a1_1] 23 (0, 0)) (by (with_reducible repeat first | apply b1 | apply b2 | apply b3); exact BK260.out)) : gb260 ≠ gb280)); have n11_ := Aside0.mk ((by rw [hg]; exact Nat.ne_of_gt (blk_lt (g := gb260) (o := .cells #[.int .i64 a1_0, .int .i64 a1_1] 23 (0, 0)) (by (with_reducible repeat first | apply b1 | apply b2 | apply b3); exact BK260.out)) : gb280 ≠ gb260)); have n12_ := Aside0.mk ((by rw [hg]; exact Nat.ne_of_lt (blk_lt (g := gb261) (o := .cells #[.int .i64 a2_0, .int .i64 a2_1] 23 (0, 0)) (by (with_reducible repeat first | apply b1 | apply b2 | apply b3); exact BK261.out)) : gb261 ≠ gb280)); have n13_ := Aside0.mk ((by rw [hg]; exact Nat.ne_of_gt (blk_lt (g := gb261) (o := .cells #[.int .i64 a2_0, .int .i64 a2_1] 23 (0, 0)) (by (with_reducible repeat first | apply b1 | apply b2 | apply b3); exact BK261.out)) : gb280 ≠ gb261)); have n14_ := Aside0.mk ((by rw [hg]; exact Nat.ne_of_lt (blk_lt (g := gb272) (o := .cells #[.int .i64 t269, .int .i64 t270] 23 (0, 0)) (by (with_reducible repeat first | apply b1 | apply b2 | apply b3); exact BK272.out)) : gb272 ≠ gb280)); have n15_ := Aside0.mk ((by rw [hg]; exact Nat.ne_of_gt (blk_lt (g := gb272) (o := .cells #[.int .i64 t269, .int .i64 t270] 23 (0, 0)) (by (with_reducible repeat first | apply b1 | apply b2 | apply b3); exact BK272.out)) : gb280 ≠ gb272)); clear BK259; clear BK260; clear BK261; clear BK272; clear HB; have BK259 := n0_; have BK260 := n1_; have BK261 := n2_; have BK272 := n3_; have HB := n4_; have BK280 := n5_; have GW280 := n6_; have GE280 := n7_; have NB259_280 := n8_; have NB280_259 := n9_; have NB260_280 := n10_; have NB280_260 := n11_; have NB261_280 := n12_; have NB280_261 := n13_; have NB272_280 := n14_; have NB280_272 := n15_; clear n0_ n1_ n2_ n3_ n4_ n5_ n6_ n7_ n8_ n9_ n10_ n11_ n12_ n13_ n14_ n15_; clear hb hbox hg; have hnb117 := NB280_259.out; have hnc117 := NB259_280.out; have hnb118 := NB280_260.out; have hnc118 := NB260_280.out; have hnb119 := NB280_261.out; have hnc119 := NB261_280.out; have hnb120 := NB280_272.out; have hnc120 := NB272_280.out; have hcz121_0 : w116.cell? ⟨gb280, 0, none⟩ = some (.int .i64 0) := (blk_cell BK280.out 0).trans rfl; have hcz121_1 : w116.cell? ⟨gb280, 1, none⟩ = some (.int .i64 0) := (blk_cell BK280.out 1).trans rfl; have hfz121_0 := blk_frozen BK280.out 0; have hfz121_1 := blk_frozen BK280.out 1; have hnb122 := NB260_272.out; have hnc122 := NB272_260.out; have hcz123_0 : w116.cell? ⟨gb260, 0, none⟩ = some (.int .i64 a1_0) := (blk_cell BK260.out 0).trans rfl; have hcz123_1 : w116.cell? ⟨gb260, 1, none⟩ = some (.int .i64 a1_1) := (blk_cell BK260.out 1).trans rfl; have hfz123_0 := blk_frozen BK260.out 0; have hfz123_1 := blk_frozen BK260.out 1; have hcz124_0 : w116.cell? ⟨gb261, 0, none⟩ = some (.int .i64 a2_0) := (blk_cell BK261.out 0).trans rfl; have hcz124_1 : w116.cell? ⟨gb261, 1, none⟩ = some (.int .i64 a2_1) := (blk_cell BK261.out 1).trans rfl; have hfz124_0 := blk_frozen BK261.out 0; have hfz124_1 := blk_frozen BK261.out 1) | ((with_reducible refine gate_callee (f := 21) rfl ?_); refine goesL_ (some 121) rfl rfl Tryd.func21 (by kernel_rfl) rfl #[.agg #[.int .i64 a1_0, .int .i64 a1_1], .agg #[.int .i64 a2_0, .int .i64 a2_1]] rfl (by (try simp only [List.map_toArray, List.map_cons, List.map_nil]); first | done | rfl | (simp only [List.length_drop, List.length_take]; rfl)) ?_; (with_reducible refine (fraction_Add.calls kj85 a1_0 a1_1 a2_0 a2_1 t281 t282 t283 _ A105.out).mono ?_); rintro e w125 ⟨rfl, hb⟩; refine ⟨_, rfl, ?_⟩; have n0_ := Aside0.mk (blk_below (g := gb259) (o := .cells #[.int .i64 a0_0, .int .i64 a0_1] 23 (0, 0)) (by (with_reducible repeat first | apply b1 | apply b2 | apply b3); refine blk_far ?_ NB259_280.out _; (with_reducible repeat first | apply b1 | apply b2 | apply b3); refine blk_far ?_ NB259_280.out _; (with_reducible repeat first | apply b1 | apply b2 | apply b3); exact BK259.out) hb); have n1_ := Aside0.mk (blk_below (g := gb260) (o := .cells #[.int .i64 a1_0, .int .i64 a1_1] 23 (0, 0)) (by (with_reducible repeat first | apply b1 | apply b2 | apply b3); refine blk_far ?_ NB260_280.out _; (with_reducible repeat first | apply b1 | apply b2 | apply b3); refine blk_far ?_ NB260_280.out _; (with_reducible repeat first | apply b1 | apply b2 | apply b3); exact BK260.out) hb); have n2_ := Aside0.mk (blk_below (g := gb261) (o := .cells #[.int .i64 a2_0, .int .i64 a2_1] 23 (0, 0)) (by (with_reducible repeat first | apply b1 | apply b2 | apply b3); refine blk_far ?_ NB261_280.out _; (with_reducible repeat first | apply b1 | apply b2 | apply b3); refine blk_far ?_ NB261_280.out _; (with_reducible repeat first | apply b1 | apply b2 | apply b3); exact BK261.out) hb); have n3_ := Aside0.mk (blk_below (g := gb272) (o := .cells #[.int .i64 t269, .int .i64 t270] 23 (0, 0)) (by (with_reducible repeat first | apply b1 | apply b2 | apply b3); refine blk_far ?_ NB272_280.out _; (with_reducible repeat first | apply b1 | apply b2 | apply b3); refine blk_far ?_ NB272_280.out _; (with_reducible repeat first | apply b1 | apply b2 | apply b3); exact BK272.out) hb); have n4_ := Aside0.mk (blk_below (g := gb280) (o := .cells #[.int .i64 t277, .int .i64 t278] 23 (0, 0)) (by (with_reducible repeat first | apply b1 | apply b2 | apply b3); refine blk_put (cs := #[.int .i64 t277, .int .i64 0]) ?_ 1 _ rfl; (with_reducible repeat first | apply b1 | apply b2 | apply b3); refine blk_put (cs := #[.int .i64 0, .int .i64 0]) ?_ 0 _ rfl; (with_reducible repeat first | apply b1 | apply b2 | apply b3); exact BK280.out) hb); have n5_ := Aside0.mk (below_step (by repeat (first | (with_reducible first | exact HB.out | apply b4 | apply b5 | apply b6 | refine below_set ?_ GE259.out | refine below_set ?_ GE260.out | refine below_set ?_ GE261.out | refine below_set ?_ GE272.out | refine below_set ?_ GE280.out) | exact HB.out)) hb); clear BK259; clear BK260; clear BK261; clear BK272; clear BK280; clear HB; have BK259 := n0_; have BK260 := n1_; have BK261 := n2_; have BK272 := n3_; have BK280 := n4_; have HB := n5_; clear n0_ n1_ n2_ n3_ n4_ n5_; (try clear hb); (try clear hb2); (try clear hk); (try clear hi)) | ((with_reducible refine gate_dst (N := 17) rfl ?_); refine box_event ?hg (N := 17) ?hd (cs := #[.int .i64 0, .int .i64 0]) (t := 23) ?hr ?_; (case hd => rfl); (case hg => rfl); (case hr => first | (go_simp; done) | (go_simp; rfl)); intro gb284 hg w126 hbox hb; have n0_ := Aside0.mk (blk_below (g := gb259) (o := .cells #[.int .i64 a0_0, .int .i64 a0_1] 23 (0, 0)) (by (with_reducible repeat first | apply b1 | apply b2 | apply b3); exact BK259.out) hb); have n1_ := Aside0.mk (blk_below (g := gb260) (o := .cells #[.int .i64 a1_0, .int .i64 a1_1] 23 (0, 0)) (by (with_reducible repeat first | apply b1 | apply b2 | apply b3); exact BK260.out) hb); have n2_ := Aside0.mk (blk_below (g := gb261) (o := .cells #[.int .i64 a2_0, .int .i64 a2_1] 23 (0, 0)) (by (with_reducible repeat first | apply b1 | apply b2 | apply b3); exact BK261.out) hb); have n3_ := Aside0.mk (blk_below (g := gb272) (o := .cells #[.int .i64 t269, .int .i64 t270] 23 (0, 0)) (by (with_reducible repeat first | apply b1 | apply b2 | apply b3); exact BK272.out) hb); have n4_ := Aside0.mk (blk_below (g := gb280) (o := .cells #[.int .i64 t277, .int .i64 t278] 23 (0, 0)) (by (with_reducible repeat first | apply b1 | apply b2 | apply b3); exact BK280.out) hb); have n5_ := Aside0.mk (below_step (by repeat (first | (with_reducible first | exact HB.out | apply b4 | apply b5 | apply b6 | refine below_set ?_ GE259.out | refine below_set ?_ GE260.out | refine below_set ?_ GE261.out | refine below_set ?_ GE272.out | refine below_set ?_ GE280.out) | exact HB.out)) hb); have n6_ := Aside0.mk (hbox); have n7_ := Aside0.mk ((by rw [hg]; exact (below_size (by repeat (first | (with_reducible first | exact HB.out | apply b4 | apply b5 | apply b6 | refine below_set ?_ GE259.out | refine below_set ?_ GE260.out | refine below_set ?_ GE261.out | refine below_set ?_ GE272.out | refine below_set ?_ GE280.out) | exact HB.out))) : w.heap.size ≤ gb284)); have n8_ := Aside0.mk ((by rw [hg]; exact (below_size (by repeat (first | (with_reducible first | exact HB.out | apply b4 | apply b5 | apply b6 | refine below_set ?_ GE259.out | refine below_set ?_ GE260.out | refine below_set ?_ GE261.out | refine below_set ?_ GE272.out | refine below_set ?_ GE280.out) | exact HB.out))) : w.heap.size ≤ gb284)); have n9_ := Aside0.mk ((by rw [hg]; exact Nat.ne_of_lt (blk_lt (g := gb259) (o := .cells #[.int .i64 a0_0, .int .i64 a0_1] 23 (0, 0)) (by (with_reducible repeat first | apply b1 | apply b2 | apply b3); exact BK259.out)) : gb259 ≠ gb284)); have n10_ := Aside0.mk ((by rw [hg]; exact Nat.ne_of_gt (blk_lt (g := gb259) (o := .cells #[.int .i64 a0_0, .int .i64 a0_1] 23 (0, 0)) (by (with_reducible repeat first | apply b1 | apply b2 | apply b3); exact BK259.out)) : gb284 ≠ gb259)); have n11_ := Aside0.mk ((by rw [hg]; exact Nat.ne_of_lt (blk_lt (g := gb260) (o := .cells #[.int .i64 a1_0, .int .i64 a1_1] 23 (0, 0)) (by (with_reducible repeat first | apply b1 | apply b2 | apply b3); exact BK260.out)) : gb260 ≠ gb284)); have n12_ := Aside0.mk ((by rw [hg]; exact Nat.ne_of_gt (blk_lt (g := gb260) (o := .cells #[.int .i64 a1_0, .int .i64 a1_1] 23 (0, 0)) (by (with_reducible repeat first | apply b1 | apply b2 | apply b3); exact BK260.out)) : gb284 ≠ gb260)); have n13_ := Aside0.mk ((by rw [hg]; exact Nat.ne_of_lt (blk_lt (g := gb261) (o := .cells #[.int .i64 a2_0, .int .i64 a2_1] 23 (0, 0)) (by (with_reducible repeat first | apply b1 | apply b2 | apply b3); exact BK261.out)) : gb261 ≠ gb284)); have n14_ := Aside0.mk ((by rw [hg]; exact Nat.ne_of_gt (blk_lt (g := gb261) (o := .cells #[.int .i64 a2_0, .int .i64 a2_1] 23 (0, 0)) (by (with_reducible repeat first | apply b1 | apply b2 | apply b3); exact BK261.out)) : gb284 ≠ gb261)); have n15_ := Aside0.mk ((by rw [hg]; exact Nat.ne_of_lt (blk_lt (g := gb272) (o := .cells #[.int .i64 t269, .int .i64 t270] 23 (0, 0)) (by (with_reducible repeat first | apply b1 | apply b2 | apply b3); exact BK272.out)) : gb272 ≠ gb284)); have n16_ := Aside0.mk ((by rw [hg]; exact Nat.ne_of_gt (blk_lt (g := gb272) (o := .cells #[.int .i64 t269, .int .i64 t270] 23 (0, 0)) (by (with_reducible repeat first | apply b1 | apply b2 | apply b3); exact BK272.out)) : gb284 ≠ gb272)); have n17_ := Aside0.mk ((by rw [hg]; exact Nat.ne_of_lt (blk_lt (g := gb280) (o := .cells #[.int .i64 t277, .int .i64 t278] 23 (0, 0)) (by (with_reducible repeat first | apply b1 | apply b2 | apply b3); exact BK280.out)) : gb280 ≠ gb284)); have n18_ := Aside0.mk ((by rw [hg]; exact Nat.ne_of_gt (blk_lt (g := gb280) (o := .cells #[.int .i64 t277, .int .i64 t278] 23 (0, 0)) (by (with_reducible repeat first | apply b1 | apply b2 | apply b3); exact BK280.out)) : gb284 ≠ gb280)); clear BK259; clear BK260; clear BK261; clear BK272; clear BK280; clear HB; have BK259 := n0_; have BK260 := n1_; have BK261 := n2_; have BK272 := n3_; have BK280 := n4_; have HB := n5_; have BK284 := n6_; have GW284 := n7_; have GE284 := n8_; have NB259_284 := n9_; have NB284_259 := n10_; have NB260_284 := n11_; have NB284_260 := n12_; have NB261_284 := n13_; have NB284_261 := n14_; have NB272_284 := n15_; have NB284_272 := n16_; have NB280_284 := n17_; have NB284_280 := n18_; clear n0_ n1_ n2_ n3_ n4_ n5_ n6_ n7_ n8_ n9_ n10_ n11_ n12_ n13_ n14_ n15_ n16_ n17_ n18_; clear hb hbox hg; have hnb127 := NB284_259.out; have hnc127 := NB259_284.out; have hnb128 := NB284_260.out; have hnc128 := NB260_284.out; have hnb129 := NB284_261.out; have hnc129 := NB261_284.out; have hnb130 := NB284_272.out; have hnc130 := NB272_284.out; have hnb131 := NB284_280.out; have hnc131 := NB280_284.out; have hcz132_0 : w126.cell? ⟨gb284, 0, none⟩ = some (.int .i64 0) := (blk_cell BK284.out 0).trans rfl; have hcz132_1 : w126.cell? ⟨gb284, 1, none⟩ = some (.int .i64 0) := (blk_cell BK284.out 1).trans rfl; have hfz132_0 := blk_frozen BK284.out 0; have hfz132_1 := blk_frozen BK284.out 1; have hcz133_0 : w126.cell? ⟨gb280, 0, none⟩ = some (.int .i64 t277) := (blk_cell BK280.out 0).trans rfl; have hcz133_1 : w126.cell? ⟨gb280, 1, none⟩ = some (.int .i64 t278) := (blk_cell BK280.out 1).trans rfl; have hfz133_0 := blk_frozen BK280.out 0; have hfz133_1 := blk_frozen BK280.out 1) | ((with_reducible refine gate_callee (f := 27) rfl ?_); refine goesL_ (some 127) rfl rfl Tryd.func27 (by kernel_rfl) rfl #[.agg #[.int .i64 t277, .int .i64 t278], .agg #[.int .i64 t281, .int .i64 t282]] rfl (by (try simp only [List.map_toArray, List.map_cons, List.map_nil]); first | done | rfl | (simp only [List.length_drop, List.length_take]; rfl)) ?_; (with_reducible refine (fraction_Compare.calls kj85 t277 t278 t281 t282 t285 t286 _ A106.out).mono ?_); rintro e w134 ⟨rfl, hb⟩; refine ⟨_, rfl, ?_⟩; have n0_ := Aside0.mk (blk_below (g := gb259) (o := .cells #[.int .i64 a0_0, .int .i64 a0_1] 23 (0, 0)) (by (with_reducible repeat first | apply b1 | apply b2 | apply b3); refine blk_far ?_ NB259_284.out _; (with_reducible repeat first | apply b1 | apply b2 | apply b3); refine blk_far ?_ NB259_284.out _; (with_reducible repeat first | apply b1 | apply b2 | apply b3); exact BK259.out) hb); have n1_ := Aside0.mk (blk_below (g := gb260) (o := .cells #[.int .i64 a1_0, .int .i64 a1_1] 23 (0, 0)) (by (with_reducible repeat first | apply b1 | apply b2 | apply b3); refine blk_far ?_ NB260_284.out _; (with_reducible repeat first | apply b1 | apply b2 | apply b3); refine blk_far ?_ NB260_284.out _; (with_reducible repeat first | apply b1 | apply b2 | apply b3); exact BK260.out) hb); have n2_ := Aside0.mk (blk_below (g := gb261) (o := .cells #[.int .i64 a2_0, .int .i64 a2_1] 23 (0, 0)) (by (with_reducible repeat first | apply b1 | apply b2 | apply b3); refine blk_far ?_ NB261_284.out _; (with_reducible repeat first | apply b1 | apply b2 | apply b3); refine blk_far ?_ NB261_284.out _; (with_reducible repeat first | apply b1 | apply b2 | apply b3); exact BK261.out) hb); have n3_ := Aside0.mk (blk_below (g := gb272) (o := .cells #[.int .i64 t269, .int .i64 t270] 23 (0, 0)) (by (with_reducible repeat first | apply b1 | apply b2 | apply b3); refine blk_far ?_ NB272_284.out _; (with_reducible repeat first | apply b1 | apply b2 | apply b3); refine blk_far ?_ NB272_284.out _; (with_reducible repeat first | apply b1 | apply b2 | apply b3); exact BK272.out) hb); have n4_ := Aside0.mk (blk_below (g := gb280) (o := .cells #[.int .i64 t277, .int .i64 t278] 23 (0, 0)) (by (with_reducible repeat first | apply b1 | apply b2 | apply b3); refine blk_far ?_ NB280_284.out _; (with_reducible repeat first | apply b1 | apply b2 | apply b3); refine blk_far ?_ NB280_284.out _; (with_reducible repeat first | apply b1 | apply b2 | apply b3); exact BK280.out) hb); have n5_ := Aside0.mk (blk_below (g := gb284) (o := .cells #[.int .i64 t281, .int .i64 t282] 23 (0, 0)) (by (with_reducible repeat first | apply b1 | apply b2 | apply b3); refine blk_put (cs := #[.int .i64 t281, .int .i64 0]) ?_ 1 _ rfl; (with_reducible repeat first | apply b1 | apply b2 | apply b3); refine blk_put (cs := #[.int .i64 0, .int .i64 0]) ?_ 0 _ rfl; (with_reducible repeat first | apply b1 | apply b2 | apply b3); exact BK284.out) hb); have n6_ := Aside0.mk (below_step (by repeat (first | (with_reducible first | exact HB.out | apply b4 | apply b5 | apply b6 | refine below_set ?_ GE259.out | refine below_set ?_ GE260.out | refine below_set ?_ GE261.out | refine below_set ?_ GE272.out | refine below_set ?_ GE280.out | refine below_set ?_ GE284.out) | exact HB.out)) hb); clear BK259; clear BK260; clear BK261; clear BK272; clear BK280; clear BK284; clear HB; have BK259 := n0_; have BK260 := n1_; have BK261 := n2_; have BK272 := n3_; have BK280 := n4_; have BK284 := n5_; have HB := n6_; clear n0_ n1_ n2_ n3_ n4_ n5_ n6_; (try clear hb); (try clear hb2); (try clear hk); (try clear hi)))
             (try simp only [Act.put, List.setIfInBounds_toArray, List.set_cons_zero, List.set_cons_succ])
             go_cut [144] (fun v144 wc => ∃ (kq : Nat) (x144_106 : Bool), v144 = .bool x144_106 ∧ Aside0 (assessorlaw46_FractionOrder.j3 kq t263 x144_106 a0_0 a0_1 a1_0 a1_1 a2_0 a2_1 = some r) ∧ Aside0 (kq ≤ kj85) ∧ Aside0 (wc.heap[gb259]? = some (.cells #[.int .i64 a0_0, .int .i64 a0_1] 23 (0, 0))) ∧ Aside0 (wc.heap[gb260]? = some (.cells #[.int .i64 a1_0, .int .i64 a1_1] 23 (0, 0))) ∧ Aside0 (wc.heap[gb261]? = some (.cells #[.int .i64 a2_0, .int .i64 a2_1] 23 (0, 0))) ∧ Aside0 (wc.heap[gb272]? = some (.cells #[.int .i64 t269, .int .i64 t270] 23 (0, 0))) ∧ Aside0 (wc.heap[gb280]? = some (.cells #[.int .i64 t277, .int .i64 t278] 23 (0, 0))) ∧ Aside0 (wc.heap[gb284]? = some (.cells #[.int .i64 t281, .int .i64 t282] 23 (0, 0))) ∧ Aside0 (Below w.heap.size w wc))
             case first => as_aux_lemma =>
              have H := HC107.out
              clear HC107
              by_cases c135 : t279 = 0
              ·
               rw [if_pos c135] at H
               have c135b0 : (t279 == 0) = true := beq_iff_eq.mpr c135
               have c135b1 : (t279 != 0) = false := bne_eq_false_iff_eq.mpr c135
               clear c135
               (first | rw [c135b0] | (simp only [i64_w, i32_w]; rw [c135b0]) | skip)
               by_cases c136 : t283 = 0
               ·
                rw [if_pos c136] at H
                have c136b0 : (t283 == 0) = true := beq_iff_eq.mpr c136
                have c136b1 : (t283 != 0) = false := bne_eq_false_iff_eq.mpr c136
                clear c136
                by_cases c137 : t286 = true
                ·
                 subst c137
                 have H1 : (assessorlaw46_FractionOrder.j3 kj85 t263 (t285 != t263) a0_0 a0_1 a1_0 a1_1 a2_0 a2_1) = some r := by rw [if_pos rfl] at H; exact H
                 clear H
                 have H := H1
                 clear H1
                 have H' := Aside0.mk H
                 clear H
                 go_wp2
                 go_meet
                 case rel => exact ⟨_, ((t285 != t263)), (by first | rfl | (simp; done) | (simp [*]; done)), H', ⟨by have := HJ7.out; have := HJ65.out; have := HJ85.out; first | omega | exact Nat.le_refl _⟩, ⟨by (with_reducible repeat first | apply b1 | apply b2 | apply b3); exact BK259.out⟩, ⟨by (with_reducible repeat first | apply b1 | apply b2 | apply b3); exact BK260.out⟩, ⟨by (with_reducible repeat first | apply b1 | apply b2 | apply b3); exact BK261.out⟩, ⟨by (with_reducible repeat first | apply b1 | apply b2 | apply b3); exact BK272.out⟩, ⟨by (with_reducible repeat first | apply b1 | apply b2 | apply b3); exact BK280.out⟩, ⟨by (with_reducible repeat first | apply b1 | apply b2 | apply b3); exact BK284.out⟩, ⟨by repeat (first | (with_reducible first | exact HB.out | apply b4 | apply b5 | apply b6 | refine below_set ?_ GE259.out | refine below_set ?_ GE260.out | refine below_set ?_ GE261.out | refine below_set ?_ GE272.out | refine below_set ?_ GE280.out | refine below_set ?_ GE284.out) | exact HB.out)⟩⟩
                ·
                 replace c137 := Bool.eq_false_iff.mpr c137
                 subst c137
                 have H1 : (assessorlaw46_FractionOrder.j3 kj85 t263 true a0_0 a0_1 a1_0 a1_1 a2_0 a2_1) = some r := by rw [if_neg (show ¬ (false = true) by decide)] at H; exact H
                 clear H
                 have H := H1
                 clear H1
                 have H' := Aside0.mk H
                 clear H
                 go_wp2
                 go_meet
                 case rel => exact ⟨_, (true), (by first | rfl | (simp; done) | (simp [*]; done)), H', ⟨by have := HJ7.out; have := HJ65.out; have := HJ85.out; first | omega | exact Nat.le_refl _⟩, ⟨by (with_reducible repeat first | apply b1 | apply b2 | apply b3); exact BK259.out⟩, ⟨by (with_reducible repeat first | apply b1 | apply b2 | apply b3); exact BK260.out⟩, ⟨by (with_reducible repeat first | apply b1 | apply b2 | apply b3); exact BK261.out⟩, ⟨by (with_reducible repeat first | apply b1 | apply b2 | apply b3); exact BK272.out⟩, ⟨by (with_reducible repeat first | apply b1 | apply b2 | apply b3); exact BK280.out⟩, ⟨by (with_reducible repeat first | apply b1 | apply b2 | apply b3); exact BK284.out⟩, ⟨by repeat (first | (with_reducible first | exact HB.out | apply b4 | apply b5 | apply b6 | refine below_set ?_ GE259.out | refine below_set ?_ GE260.out | refine below_set ?_ GE261.out | refine below_set ?_ GE272.out | refine below_set ?_ GE280.out | refine below_set ?_ GE284.out) | exact HB.out)⟩⟩
               ·
                rw [if_neg c136] at H
                have c136b0 : (t283 == 0) = false := beq_eq_false_iff_ne.mpr c136
                have c136b1 : (t283 != 0) = true := bne_iff_ne.mpr c136
                have H' := Aside0.mk H
                clear H
                go_wp2
                go_meet
                case rel => exact ⟨_, (false), (by first | rfl | (simp; done) | (simp [*]; done)), H', ⟨by have := HJ7.out; have := HJ65.out; have := HJ85.out; first | omega | exact Nat.le_refl _⟩, ⟨by (with_reducible repeat first | apply b1 | apply b2 | apply b3); exact BK259.out⟩, ⟨by (with_reducible repeat first | apply b1 | apply b2 | apply b3); exact BK260.out⟩, ⟨by (with_reducible repeat first | apply b1 | apply b2 | apply b3); exact BK261.out⟩, ⟨by (with_reducible repeat first | apply b1 | apply b2 | apply b3); exact BK272.out⟩, ⟨by (with_reducible repeat first | apply b1 | apply b2 | apply b3); exact BK280.out⟩, ⟨by (with_reducible repeat first | apply b1 | apply b2 | apply b3); exact BK284.out⟩, ⟨by repeat (first | (with_reducible first | exact HB.out | apply b4 | apply b5 | apply b6 | refine below_set ?_ GE259.out | refine below_set ?_ GE260.out | refine below_set ?_ GE261.out | refine below_set ?_ GE272.out | refine below_set ?_ GE280.out | refine below_set ?_ GE284.out) | exact HB.out)⟩⟩
              ·
               rw [if_neg c135] at H
               have c135b0 : (t279 == 0) = false := beq_eq_false_iff_ne.mpr c135
               have c135b1 : (t279 != 0) = true := bne_iff_ne.mpr c135
               (first | rw [c135b0] | (simp only [i64_w, i32_w]; rw [c135b0]) | skip)
               have H' := Aside0.mk H
               clear H
               go_wp2
               go_meet
               case rel => exact ⟨_, (false), (by first | rfl | (simp; done) | (simp [*]; done)), H', ⟨by have := HJ7.out; have := HJ65.out; have := HJ85.out; first | omega | exact Nat.le_refl _⟩, ⟨by (with_reducible repeat first | apply b1 | apply b2 | apply b3); exact BK259.out⟩, ⟨by (with_reducible repeat first | apply b1 | apply b2 | apply b3); exact BK260.out⟩, ⟨by (with_reducible repeat first | apply b1 | apply b2 | apply b3); exact BK261.out⟩, ⟨by (with_reducible repeat first | apply b1 | apply b2 | apply b3); exact BK272.out⟩, ⟨by (with_reducible repeat first | apply b1 | apply b2 | apply b3); exact BK280.out⟩, ⟨by (with_reducible repeat first | apply b1 | apply b2 | apply b3); exact BK284.out⟩, ⟨by repeat (first | (with_reducible first | exact HB.out | apply b4 | apply b5 | apply b6 | refine below_set ?_ GE259.out | refine below_set ?_ GE260.out | refine below_set ?_ GE261.out | refine below_set ?_ GE272.out | refine below_set ?_ GE280.out | refine below_set ?_ GE284.out) | exact HB.out)⟩⟩
             case rest => as_aux_lemma =>
              clear HC107
              try clear c1
              try clear c2
              try clear p2
              try clear c3
              try clear c4
              try clear c5
              try clear c6
              try clear p6
              try clear c7
              try clear c8
              try clear c9
              try clear c10
              try clear c11
              try clear c12
              try clear c13
              try clear c14
              try clear c15
              try clear c16
              try clear c21
              try clear c23
              try clear c25
              try clear c25b0
              try clear c25b1
              try clear c25b2
              try clear c26
              try clear c27
              try clear c30
              try clear c33
              try clear c33b0
              try clear c33b1
              try clear c33b2
              try clear c34
              try clear c35
              try clear c38
              try clear c41
              try clear c42
              try clear c45
              try clear c48
              try clear c49
              try clear c50
              try clear c53
              try clear c54
              try clear c55
              try clear c58
              try clear c59
              try clear c62
              try clear c63
              try clear c64
              try clear c64b0
              try clear c64b1
              try clear c64b2
              try clear p64
              try clear c67
              try clear c68
              try clear c70
              try clear c74
              try clear c75
              try clear c76
              try clear c78
              try clear c78b0
              try clear c78b1
              try clear c79
              try clear c80
              try clear c81
              try clear c83
              try clear c87
              try clear c88
              try clear c89
              try clear c91
              try clear c92
              try clear c95
              try clear c99
              try clear c100
              try clear c101
              try clear c101b0
              try clear c102
              try clear c102b0
              try clear c103
              try clear c108
              try clear c109
              try clear c110
              try clear c112
              try clear c113
              try clear c117
              try clear c118
              try clear c119
              try clear c120
              try clear c122
              try clear c127
              try clear c128
              try clear c129
              try clear c130
              try clear c131
              try clear c135
              try clear c135b0
              try clear c135b1
              try clear c136
              try clear c136b0
              try clear c136b1
              try clear c137
              try clear hcz111_0
              try clear hcz111_1
              try clear hcz114_0
              try clear hcz114_1
              try clear hcz121_0
              try clear hcz121_1
              try clear hcz123_0
              try clear hcz123_1
              try clear hcz124_0
              try clear hcz124_1
              try clear hcz132_0
              try clear hcz132_1
              try clear hcz133_0
              try clear hcz133_1
              try clear hcz15_0
              try clear hcz15_1
              try clear hcz17_0
              try clear hcz17_1
              try clear hcz19_0
              try clear hcz19_1
              try clear hcz20_0
              try clear hcz20_1
              try clear hcz28_0
              try clear hcz28_1
              try clear hcz31_0
              try clear hcz31_1
              try clear hcz36_0
              try clear hcz36_1
              try clear hcz39_0
              try clear hcz39_1
              try clear hcz43_0
              try clear hcz43_1
              try clear hcz46_0
              try clear hcz46_1
              try clear hcz51_0
              try clear hcz51_1
              try clear hcz56_0
              try clear hcz56_1
              try clear hcz60_0
              try clear hcz60_1
              try clear hcz69_0
              try clear hcz69_1
              try clear hcz71_0
              try clear hcz71_1
              try clear hcz77_0
              try clear hcz77_1
              try clear hcz82_0
              try clear hcz82_1
              try clear hcz90_0
              try clear hcz90_1
              try clear hcz93_0
              try clear hcz93_1
              try clear hcz96_0
              try clear hcz96_1
              try clear hcz97_0
              try clear hcz97_1
              try clear hfz111_0
              try clear hfz111_1
              try clear hfz114_0
              try clear hfz114_1
              try clear hfz121_0
              try clear hfz121_1
              try clear hfz123_0
              try clear hfz123_1
              try clear hfz124_0
              try clear hfz124_1
              try clear hfz132_0
              try clear hfz132_1
              try clear hfz133_0
              try clear hfz133_1
              try clear hfz15_0
              try clear hfz15_1
              try clear hfz17_0
              try clear hfz17_1
              try clear hfz19_0
              try clear hfz19_1
              try clear hfz20_0
              try clear hfz20_1
              try clear hfz28_0
              try clear hfz28_1
              try clear hfz31_0
              try clear hfz31_1
              try clear hfz36_0
              try clear hfz36_1
              try clear hfz39_0
              try clear hfz39_1
              try clear hfz43_0
              try clear hfz43_1
              try clear hfz46_0
              try clear hfz46_1
              try clear hfz51_0
              try clear hfz51_1
              try clear hfz56_0
              try clear hfz56_1
              try clear hfz60_0
              try clear hfz60_1
              try clear hfz69_0
              try clear hfz69_1
              try clear hfz71_0
              try clear hfz71_1
              try clear hfz77_0
              try clear hfz77_1
              try clear hfz82_0
              try clear hfz82_1
              try clear hfz90_0
              try clear hfz90_1
              try clear hfz93_0
              try clear hfz93_1
              try clear hfz96_0
              try clear hfz96_1
              try clear hfz97_0
              try clear hfz97_1
              try clear p2
              try clear p6
              try clear p64
              obtain ⟨kq, x144_106, rfl, HA, HJ106, BK259, BK260, BK261, BK272, BK280, BK284, HB⟩ := hcut
              cases kq with
              | zero => exact absurd HA.out (by simp [assessorlaw46_FractionOrder.j3])
              | succ kj106 =>
               have H := HA.out
               clear HA
               simp only [assessorlaw46_FractionOrder.j3] at H
               by_cases c138 : x144_106 = true
               ·
                subst c138
                have H1 : (some false) = some r := by rw [if_pos rfl] at H; exact H
                clear H
                have H := H1
                clear H1
                obtain rfl := Option.some.inj H
                exact absurd hr_.out (by simp)
               ·
                replace c138 := Bool.eq_false_iff.mpr c138
                subst c138
                have H1 : ((fraction_Mul.f kj106 a0_0 a0_1 a2_0 a2_1).bind fun bt287 => ((fraction_Mul.f kj106 a1_0 a1_1 a2_0 a2_1).bind fun bt291 => ((fraction_Compare.f kj106 bt287.1 bt287.2.1 bt291.1 bt291.2.1).bind fun bt295 => (if bt287.2.2 = 0 then (if bt291.2.2 = 0 then (if a2_0 < 0 then (assessorlaw46_FractionOrder.j4 kj106 true) else (if bt295.2 = true then (if t263 > 0 then (assessorlaw46_FractionOrder.j4 kj106 true) else (assessorlaw46_FractionOrder.j4 kj106 (decide (bt295.1 ≤ 0)))) else (assessorlaw46_FractionOrder.j4 kj106 false))) else (assessorlaw46_FractionOrder.j4 kj106 true)) else (assessorlaw46_FractionOrder.j4 kj106 true))))) = some r := by rw [if_neg (show ¬ (false = true) by decide)] at H; exact H
                clear H
                have H := H1
                clear H1
                replace H := Option.bind_eq_some_iff.mp H
                obtain ⟨⟨t287, t288, t289⟩, A1390, H⟩ := H
                replace H : ((fraction_Mul.f kj106 a1_0 a1_1 a2_0 a2_1).bind fun bt291 => ((fraction_Compare.f kj106 t287 t288 bt291.1 bt291.2.1).bind fun bt295 => (if t289 = 0 then (if bt291.2.2 = 0 then (if a2_0 < 0 then (assessorlaw46_FractionOrder.j4 kj106 true) else (if bt295.2 = true then (if t263 > 0 then (assessorlaw46_FractionOrder.j4 kj106 true) else (assessorlaw46_FractionOrder.j4 kj106 (decide (bt295.1 ≤ 0)))) else (assessorlaw46_FractionOrder.j4 kj106 false))) else (assessorlaw46_FractionOrder.j4 kj106 true)) else (assessorlaw46_FractionOrder.j4 kj106 true)))) = some r := H
                have A139 := Aside0.mk A1390
                clear A1390
                replace H := Option.bind_eq_some_iff.mp H
                obtain ⟨⟨t291, t292, t293⟩, A1400, H⟩ := H
                replace H : ((fraction_Compare.f kj106 t287 t288 t291 t292).bind fun bt295 => (if t289 = 0 then (if t293 = 0 then (if a2_0 < 0 then (assessorlaw46_FractionOrder.j4 kj106 true) else (if bt295.2 = true then (if t263 > 0 then (assessorlaw46_FractionOrder.j4 kj106 true) else (assessorlaw46_FractionOrder.j4 kj106 (decide (bt295.1 ≤ 0)))) else (assessorlaw46_FractionOrder.j4 kj106 false))) else (assessorlaw46_FractionOrder.j4 kj106 true)) else (assessorlaw46_FractionOrder.j4 kj106 true))) = some r := H
                have A140 := Aside0.mk A1400
                clear A1400
                replace H := Option.bind_eq_some_iff.mp H
                obtain ⟨⟨t295, t296⟩, A1410, H⟩ := H
                replace H : (if t289 = 0 then (if t293 = 0 then (if a2_0 < 0 then (assessorlaw46_FractionOrder.j4 kj106 true) else (if t296 = true then (if t263 > 0 then (assessorlaw46_FractionOrder.j4 kj106 true) else (assessorlaw46_FractionOrder.j4 kj106 (decide (t295 ≤ 0)))) else (assessorlaw46_FractionOrder.j4 kj106 false))) else (assessorlaw46_FractionOrder.j4 kj106 true)) else (assessorlaw46_FractionOrder.j4 kj106 true)) = some r := H
                have A141 := Aside0.mk A1410
                clear A1410
                have HC142 := Aside0.mk H
                clear H
                have hnb143 := NB259_260.out
                have hnc143 := NB260_259.out
                have hnb144 := NB259_261.out
                have hnc144 := NB261_259.out
                have hnb145 := NB259_272.out
                have hnc145 := NB272_259.out
                have hnb146 := NB259_280.out
                have hnc146 := NB280_259.out
                have hnb147 := NB259_284.out
                have hnc147 := NB284_259.out
                have hcz148_0 : wc.cell? ⟨gb259, 0, none⟩ = some (.int .i64 a0_0) := (blk_cell BK259.out 0).trans rfl
                have hcz148_1 : wc.cell? ⟨gb259, 1, none⟩ = some (.int .i64 a0_1) := (blk_cell BK259.out 1).trans rfl
                have hfz148_0 := blk_frozen BK259.out 0
                have hfz148_1 := blk_frozen BK259.out 1
                have hnb149 := NB261_260.out
                have hnc149 := NB260_261.out
                have hnb150 := NB261_272.out
                have hnc150 := NB272_261.out
                have hnb151 := NB261_280.out
                have hnc151 := NB280_261.out
                have hnb152 := NB261_284.out
                have hnc152 := NB284_261.out
                have hcz153_0 : wc.cell? ⟨gb261, 0, none⟩ = some (.int .i64 a2_0) := (blk_cell BK261.out 0).trans rfl
                have hcz153_1 : wc.cell? ⟨gb261, 1, none⟩ = some (.int .i64 a2_1) := (blk_cell BK261.out 1).trans rfl
                have hfz153_0 := blk_frozen BK261.out 0
                have hfz153_1 := blk_frozen BK261.out 1
                go_upto_region 26 with (first | ((with_reducible refine gate_callee (f := 22) rfl ?_); refine goesL_ (some 148) rfl rfl Tryd.func22 (by kernel_rfl) rfl #[.agg #[.int .i64 a0_0, .int .i64 a0_1], .agg #[.int .i64 a2_0, .int .i64 a2_1]] rfl (by (try simp only [List.map_toArray, List.map_cons, List.map_nil]); first | done | rfl | (simp only [List.length_drop, List.length_take]; rfl)) ?_; (with_reducible refine (fraction_Mul.calls kj106 a0_0 a0_1 a2_0 a2_1 t287 t288 t289 _ A139.out).mono ?_); rintro e w154 ⟨rfl, hb⟩; refine ⟨_, rfl, ?_⟩; have n0_ := Aside0.mk (blk_below (g := gb259) (o := .cells #[.int .i64 a0_0, .int .i64 a0_1] 23 (0, 0)) (by (with_reducible repeat first | apply b1 | apply b2 | apply b3); exact BK259.out) hb); have n1_ := Aside0.mk (blk_below (g := gb260) (o := .cells #[.int .i64 a1_0, .int .i64 a1_1] 23 (0, 0)) (by (with_reducible repeat first | apply b1 | apply b2 | apply b3); exact BK260.out) hb); have n2_ := Aside0.mk (blk_below (g := gb261) (o := .cells #[.int .i64 a2_0, .int .i64 a2_1] 23 (0, 0)) (by (with_reducible repeat first | apply b1 | apply b2 | apply b3); exact BK261.out) hb); have n3_ := Aside0.mk (blk_below (g := gb272) (o := .cells #[.int .i64 t269, .int .i64 t270] 23 (0, 0)) (by (with_reducible repeat first | apply b1 | apply b2 | apply b3); exact BK272.out) hb); have n4_ := Aside0.mk (blk_below (g := gb280) (o := .cells #[.int .i64 t277, .int .i64 t278] 23 (0, 0)) (by (with_reducible repeat first | apply b1 | apply b2 | apply b3); exact BK280.out) hb); have n5_ := Aside0.mk (blk_below (g := gb284) (o := .cells #[.int .i64 t281, .int .i64 t282] 23 (0, 0)) (by (with_reducible repeat first | apply b1 | apply b2 | apply b3); exact BK284.out) hb); have n6_ := Aside0.mk (below_step (by repeat (first | (with_reducible first | exact HB.out | apply b4 | apply b5 | apply b6 | refine below_set ?_ GE259.out | refine below_set ?_ GE260.out | refine below_set ?_ GE261.out | refine below_set ?_ GE272.out | refine below_set ?_ GE280.out | refine below_set ?_ GE284.out) | exact HB.out)) hb); clear BK259; clear BK260; clear BK261; clear BK272; clear BK280; clear BK284; clear HB; have BK259 := n0_; have BK260 := n1_; have BK261 := n2_; have BK272 := n3_; have BK280 := n4_; have BK284 := n5_; have HB := n6_; clear n0_ n1_ n2_ n3_ n4_ n5_ n6_; (try clear hb); (try clear hb2); (try clear hk); (try clear hi)) | ((with_reducible refine gate_dst (N := 21) rfl ?_); refine box_event ?hg (N := 21) ?hd (cs := #[.int .i64 0, .int .i64 0]) (t := 23) ?hr ?_; (case hd => rfl); (case hg => rfl); (case hr => first | (go_simp; done) | (go_simp; rfl)); intro gb290 hg w155 hbox hb; have n0_ := Aside0.mk (blk_below (g := gb259) (o := .cells #[.int .i64 a0_0, .int .i64 a0_1] 23 (0, 0)) (by (with_reducible repeat first | apply b1 | apply b2 | apply b3); exact BK259.out) hb); have n1_ := Aside0.mk (blk_below (g := gb260) (o := .cells #[.int .i64 a1_0, .int .i64 a1_1] 23 (0, 0)) (by (with_reducible repeat first | apply b1 | apply b2 | apply b3); exact BK260.out) hb); have n2_ := Aside0.mk (blk_below (g := gb261) (o := .cells #[.int .i64 a2_0, .int .i64 a2_1] 23 (0, 0)) (by (with_reducible repeat first | apply b1 | apply b2 | apply b3); exact BK261.out) hb); have n3_ := Aside0.mk (blk_below (g := gb272) (o := .cells #[.int .i64 t269, .int .i64 t270] 23 (0, 0)) (by (with_reducible repeat first | apply b1 | apply b2 | apply b3); exact BK272.out) hb); have n4_ := Aside0.mk (blk_below (g := gb280) (o := .cells #[.int .i64 t277, .int .i64 t278] 23 (0, 0)) (by (with_reducible repeat first | apply b1 | apply b2 | apply b3); exact BK280.out) hb); have n5_ := Aside0.mk (blk_below (g := gb284) (o := .cells #[.int .i64 t281, .int .i64 t282] 23 (0, 0)) (by (with_reducible repeat first | apply b1 | apply b2 | apply b3); exact BK284.out) hb); have n6_ := Aside0.mk (below_step (by repeat (first | (with_reducible first | exact HB.out | apply b4 | apply b5 | apply b6 | refine below_set ?_ GE259.out | refine below_set ?_ GE260.out | refine below_set ?_ GE261.out | refine below_set ?_ GE272.out | refine below_set ?_ GE280.out | refine below_set ?_ GE284.out) | exact HB.out)) hb); have n7_ := Aside0.mk (hbox); have n8_ := Aside0.mk ((by rw [hg]; exact (below_size (by repeat (first | (with_reducible first | exact HB.out | apply b4 | apply b5 | apply b6 | refine below_set ?_ GE259.out | refine below_set ?_ GE260.out | refine below_set ?_ GE261.out | refine below_set ?_ GE272.out | refine below_set ?_ GE280.out | refine below_set ?_ GE284.out) | exact HB.out))) : w.heap.size ≤ gb290)); have n9_ := Aside0.mk ((by rw [hg]; exact (below_size (by repeat (first | (with_reducible first | exact HB.out | apply b4 | apply b5 | apply b6 | refine below_set ?_ GE259.out | refine below_set ?_ GE260.out | refine below_set ?_ GE261.out | refine below_set ?_ GE272.out | refine below_set ?_ GE280.out | refine below_set ?_ GE284.out) | exact HB.out))) : w.heap.size ≤ gb290)); have n10_ := Aside0.mk ((by rw [hg]; exact Nat.ne_of_lt (blk_lt (g := gb259) (o := .cells #[.int .i64 a0_0, .int .i64 a0_1] 23 (0, 0)) (by (with_reducible repeat first | apply b1 | apply b2 | apply b3); exact BK259.out)) : gb259 ≠ gb290)); have n11_ := Aside0.mk ((by rw [hg]; exact Nat.ne_of_gt (blk_lt (g := gb259) (o := .cells #[.int .i64 a0_0, .int .i64 a0_1] 23 (0, 0)) (by (with_reducible repeat first | apply b1 | apply b2 | apply b3); exact BK259.out)) : gb290 ≠ gb259)); have n12_ := Aside0.mk ((by rw [hg]; exact Nat.ne_of_lt (blk_lt (g := gb260) (o := .cells #[.int .i64 a1_0, .int .i64 a1_1] 23 (0, 0)) (by (with_reducible repeat first | apply b1 | apply b2 | apply b3); exact BK260.out)) : gb260 ≠ gb290)); have n13_ := Aside0.mk ((by rw [hg]; exact Nat.ne_of_gt (blk_lt (g := gb260) (o := .cells #[.int .i64 a1_0, .int .i64 a1_1] 23 (0, 0)) (by (with_reducible repeat first | apply b1 | apply b2 | apply b3); exact BK260.out)) : gb290 ≠ gb260)); have n14_ := Aside0.mk ((by rw [hg]; exact Nat.ne_of_lt (blk_lt (g := gb261) (o := .cells #[.int .i64 a2_0, .int .i64 a2_1] 23 (0, 0)) (by (with_reducible repeat first | apply b1 | apply b2 | apply b3); exact BK261.out)) : gb261 ≠ gb290)); have n15_ := Aside0.mk ((by rw [hg]; exact Nat.ne_of_gt (blk_lt (g := gb261) (o := .cells #[.int .i64 a2_0, .int .i64 a2_1] 23 (0, 0)) (by (with_reducible repeat first | apply b1 | apply b2 | apply b3); exact BK261.out)) : gb290 ≠ gb261)); have n16_ := Aside0.mk ((by rw [hg]; exact Nat.ne_of_lt (blk_lt (g := gb272) (o := .cells #[.int .i64 t269, .int .i64 t270] 23 (0, 0)) (by (with_reducible repeat first | apply b1 | apply b2 | apply b3); exact BK272.out)) : gb272 ≠ gb290)); have n17_ := Aside0.mk ((by rw [hg]; exact Nat.ne_of_gt (blk_lt (g := gb272) (o := .cells #[.int .i64 t269, .int .i64 t270] 23 (0, 0)) (by (with_reducible repeat first | apply b1 | apply b2 | apply b3); exact BK272.out)) : gb290 ≠ gb272)); have n18_ := Aside0.mk ((by rw [hg]; exact Nat.ne_of_lt (blk_lt (g := gb280) (o := .cells #[.int .i64 t277, .int .i64 t278] 23 (0, 0)) (by (with_reducible repeat first | apply b1 | apply b2 | apply b3); exact BK280.out)) : gb280 ≠ gb290)); have n19_ := Aside0.mk ((by rw [hg]; exact Nat.ne_of_gt (blk_lt (g := gb280) (o := .cells #[.int .i64 t277, .int .i64 t278] 23 (0, 0)) (by (with_reducible repeat first | apply b1 | apply b2 | apply b3); exact BK280.out)) : gb290 ≠ gb280)); have n20_ := Aside0.mk ((by rw [hg]; exact Nat.ne_of_lt (blk_lt (g := gb284) (o := .cells #[.int .i64 t281, .int .i64 t282] 23 (0, 0)) (by (with_reducible repeat first | apply b1 | apply b2 | apply b3); exact BK284.out)) : gb284 ≠ gb290)); have n21_ := Aside0.mk ((by rw [hg]; exact Nat.ne_of_gt (blk_lt (g := gb284) (o := .cells #[.int .i64 t281, .int .i64 t282] 23 (0, 0)) (by (with_reducible repeat first | apply b1 | apply b2 | apply b3); exact BK284.out)) : gb290 ≠ gb284)); clear BK259; clear BK260; clear BK261; clear BK272; clear BK280; clear BK284; clear HB; have BK259 := n0_; have BK260 := n1_; have BK261 := n2_; have BK272 := n3_; have BK280 := n4_; have BK284 := n5_; have HB := n6_; have BK290 := n7_; have GW290 := n8_; have GE290 := n9_; have NB259_290 := n10_; have NB290_259 := n11_; have NB260_290 := n12_; have NB290_260 := n13_; have NB261_290 := n14_; have NB290_261 := n15_; have NB272_290 := n16_; have NB290_272 := n17_; have NB280_290 := n18_; have NB290_280 := n19_; have NB284_290 := n20_; have NB290_284 := n21_; clear n0_ n1_ n2_ n3_ n4_ n5_ n6_ n7_ n8_ n9_ n10_ n11_ n12_ n13_ n14_ n15_ n16_ n17_ n18_ n19_ n20_ n21_; clear hb hbox hg; have hnb156 := NB290_259.out; have hnc156 := NB259_290.out; have hnb157 := NB290_260.out; have hnc157 := NB260_290.out; have hnb158 := NB290_261.out; have hnc158 := NB261_290.out; have hnb159 := NB290_272.out; have hnc159 := NB272_290.out; have hnb160 := NB290_280.out; have hnc160 := NB280_290.out; have hnb161 := NB290_284.out; have hnc161 := NB284_290.out; have hcz162_0 : w155.cell? ⟨gb290, 0, none⟩ = some (.int .i64 0) := (blk_cell BK290.out 0).trans rfl; have hcz162_1 : w155.cell? ⟨gb290, 1, none⟩ = some (.int .i64 0) := (blk_cell BK290.out 1).trans rfl; have hfz162_0 := blk_frozen BK290.out 0; have hfz162_1 := blk_frozen BK290.out 1; have hnb163 := NB260_272.out; have hnc163 := NB272_260.out; have hnb164 := NB260_280.out; have hnc164 := NB280_260.out; have hnb165 := NB260_284.out; have hnc165 := NB284_260.out; have hcz166_0 : w155.cell? ⟨gb260, 0, none⟩ = some (.int .i64 a1_0) := (blk_cell BK260.out 0).trans rfl; have hcz166_1 : w155.cell? ⟨gb260, 1, none⟩ = some (.int .i64 a1_1) := (blk_cell BK260.out 1).trans rfl; have hfz166_0 := blk_frozen BK260.out 0; have hfz166_1 := blk_frozen BK260.out 1; have hcz167_0 : w155.cell? ⟨gb261, 0, none⟩ = some (.int .i64 a2_0) := (blk_cell BK261.out 0).trans rfl; have hcz167_1 : w155.cell? ⟨gb261, 1, none⟩ = some (.int .i64 a2_1) := (blk_cell BK261.out 1).trans rfl; have hfz167_0 := blk_frozen BK261.out 0; have hfz167_1 := blk_frozen BK261.out 1) | ((with_reducible refine gate_callee (f := 22) rfl ?_); refine goesL_ (some 154) rfl rfl Tryd.func22 (by kernel_rfl) rfl #[.agg #[.int .i64 a1_0, .int .i64 a1_1], .agg #[.int .i64 a2_0, .int .i64 a2_1]] rfl (by (try simp only [List.map_toArray, List.map_cons, List.map_nil]); first | done | rfl | (simp only [List.length_drop, List.length_take]; rfl)) ?_; (with_reducible refine (fraction_Mul.calls kj106 a1_0 a1_1 a2_0 a2_1 t291 t292 t293 _ A140.out).mono ?_); rintro e w168 ⟨rfl, hb⟩; refine ⟨_, rfl, ?_⟩; have n0_ := Aside0.mk (blk_below (g := gb259) (o := .cells #[.int .i64 a0_0, .int .i64 a0_1] 23 (0, 0)) (by (with_reducible repeat first | apply b1 | apply b2 | apply b3); refine blk_far ?_ NB259_290.out _; (with_reducible repeat first | apply b1 | apply b2 | apply b3); refine blk_far ?_ NB259_290.out _; (with_reducible repeat first | apply b1 | apply b2 | apply b3); exact BK259.out) hb); have n1_ := Aside0.mk (blk_below (g := gb260) (o := .cells #[.int .i64 a1_0, .int .i64 a1_1] 23 (0, 0)) (by (with_reducible repeat first | apply b1 | apply b2 | apply b3); refine blk_far ?_ NB260_290.out _; (with_reducible repeat first | apply b1 | apply b2 | apply b3); refine blk_far ?_ NB260_290.out _; (with_reducible repeat first | apply b1 | apply b2 | apply b3); exact BK260.out) hb); have n2_ := Aside0.mk (blk_below (g := gb261) (o := .cells #[.int .i64 a2_0, .int .i64 a2_1] 23 (0, 0)) (by (with_reducible repeat first | apply b1 | apply b2 | apply b3); refine blk_far ?_ NB261_290.out _; (with_reducible repeat first | apply b1 | apply b2 | apply b3); refine blk_far ?_ NB261_290.out _; (with_reducible repeat first | apply b1 | apply b2 | apply b3); exact BK261.out) hb); have n3_ := Aside0.mk (blk_below (g := gb272) (o := .cells #[.int .i64 t269, .int .i64 t270] 23 (0, 0)) (by (with_reducible repeat first | apply b1 | apply b2 | apply b3); refine blk_far ?_ NB272_290.out _; (with_reducible repeat first | apply b1 | apply b2 | apply b3); refine blk_far ?_ NB272_290.out _; (with_reducible repeat first | apply b1 | apply b2 | apply b3); exact BK272.out) hb); have n4_ := Aside0.mk (blk_below (g := gb280) (o := .cells #[.int .i64 t277, .int .i64 t278] 23 (0, 0)) (by (with_reducible repeat first | apply b1 | apply b2 | apply b3); refine blk_far ?_ NB280_290.out _; (with_reducible repeat first | apply b1 | apply b2 | apply b3); refine blk_far ?_ NB280_290.out _; (with_reducible repeat first | apply b1 | apply b2 | apply b3); exact BK280.out) hb); have n5_ := Aside0.mk (blk_below (g := gb284) (o := .cells #[.int .i64 t281, .int .i64 t282] 23 (0, 0)) (by (with_reducible repeat first | apply b1 | apply b2 | apply b3); refine blk_far ?_ NB284_290.out _; (with_reducible repeat first | apply b1 | apply b2 | apply b3); refine blk_far ?_ NB284_290.out _; (with_reducible repeat first | apply b1 | apply b2 | apply b3); exact BK284.out) hb); have n6_ := Aside0.mk (blk_below (g := gb290) (o := .cells #[.int .i64 t287, .int .i64 t288] 23 (0, 0)) (by (with_reducible repeat first | apply b1 | apply b2 | apply b3); refine blk_put (cs := #[.int .i64 t287, .int .i64 0]) ?_ 1 _ rfl; (with_reducible repeat first | apply b1 | apply b2 | apply b3); refine blk_put (cs := #[.int .i64 0, .int .i64 0]) ?_ 0 _ rfl; (with_reducible repeat first | apply b1 | apply b2 | apply b3); exact BK290.out) hb); have n7_ := Aside0.mk (below_step (by repeat (first | (with_reducible first | exact HB.out | apply b4 | apply b5 | apply b6 | refine below_set ?_ GE259.out | refine below_set ?_ GE260.out | refine below_set ?_ GE261.out | refine below_set ?_ GE272.out | refine below_set ?_ GE280.out | refine below_set ?_ GE284.out | refine below_set ?_ GE290.out) | exact HB.out)) hb); clear BK259; clear BK260; clear BK261; clear BK272; clear BK280; clear BK284; clear BK290; clear HB; have BK259 := n0_; have BK260 := n1_; have BK261 := n2_; have BK272 := n3_; have BK280 := n4_; have BK284 := n5_; have BK290 := n6_; have HB := n7_; clear n0_ n1_ n2_ n3_ n4_ n5_ n6_ n7_; (try clear hb); (try clear hb2); (try clear hk); (try clear hi)) | ((with_reducible refine gate_dst (N := 22) rfl ?_); refine box_event ?hg (N := 22) ?hd (cs := #[.int .i64 0, .int .i64 0]) (t := 23) ?hr ?_; (case hd => rfl); (case hg => rfl); (case hr => first | (go_simp; done) | (go_simp; rfl)); intro gb294 hg w169 hbox hb; have n0_ := Aside0.mk (blk_below (g := gb259) (o := .cells #[.int .i64 a0_0, .int .i64 a0_1] 23 (0, 0)) (by (with_reducible repeat first | apply b1 | apply b2 | apply b3); exact BK259.out) hb); have n1_ := Aside0.mk (blk_below (g := gb260) (o := .cells #[.int .i64 a1_0, .int .i64 a1_1] 23 (0, 0)) (by (with_reducible repeat first | apply b1 | apply b2 | apply b3); exact BK260.out) hb); have n2_ := Aside0.mk (blk_below (g := gb261) (o := .cells #[.int .i64 a2_0, .int .i64 a2_1] 23 (0, 0)) (by (with_reducible repeat first | apply b1 | apply b2 | apply b3); exact BK261.out) hb); have n3_ := Aside0.mk (blk_below (g := gb272) (o := .cells #[.int .i64 t269, .int .i64 t270] 23 (0, 0)) (by (with_reducible repeat first | apply b1 | apply b2 | apply b3); exact BK272.out) hb); have n4_ := Aside0.mk (blk_below (g := gb280) (o := .cells #[.int .i64 t277, .int .i64 t278] 23 (0, 0)) (by (with_reducible repeat first | apply b1 | apply b2 | apply b3); exact BK280.out) hb); have n5_ := Aside0.mk (blk_below (g := gb284) (o := .cells #[.int .i64 t281, .int .i64 t282] 23 (0, 0)) (by (with_reducible repeat first | apply b1 | apply b2 | apply b3); exact BK284.out) hb); have n6_ := Aside0.mk (blk_below (g := gb290) (o := .cells #[.int .i64 t287, .int .i64 t288] 23 (0, 0)) (by (with_reducible repeat first | apply b1 | apply b2 | apply b3); exact BK290.out) hb); have n7_ := Aside0.mk (below_step (by repeat (first | (with_reducible first | exact HB.out | apply b4 | apply b5 | apply b6 | refine below_set ?_ GE259.out | refine below_set ?_ GE260.out | refine below_set ?_ GE261.out | refine below_set ?_ GE272.out | refine below_set ?_ GE280.out | refine below_set ?_ GE284.out | refine below_set ?_ GE290.out) | exact HB.out)) hb); have n8_ := Aside0.mk (hbox); have n9_ := Aside0.mk ((by rw [hg]; exact (below_size (by repeat (first | (with_reducible first | exact HB.out | apply b4 | apply b5 | apply b6 | refine below_set ?_ GE259.out | refine below_set ?_ GE260.out | refine below_set ?_ GE261.out | refine below_set ?_ GE272.out | refine below_set ?_ GE280.out | refine below_set ?_ GE284.out | refine below_set ?_ GE290.out) | exact HB.out))) : w.heap.size ≤ gb294)); have n10_ := Aside0.mk ((by rw [hg]; exact (below_size (by repeat (first | (with_reducible first | exact HB.out | apply b4 | apply b5 | apply b6 | refine below_set ?_ GE259.out | refine below_set ?_ GE260.out | refine below_set ?_ GE261.out | refine below_set ?_ GE272.out | refine below_set ?_ GE280.out | refine below_set ?_ GE284.out | refine below_set ?_ GE290.out) | exact HB.out))) : w.heap.size ≤ gb294)); have n11_ := Aside0.mk ((by rw [hg]; exact Nat.ne_of_lt (blk_lt (g := gb259) (o := .cells #[.int .i64 a0_0, .int .i64 a0_1] 23 (0, 0)) (by (with_reducible repeat first | apply b1 | apply b2 | apply b3); exact BK259.out)) : gb259 ≠ gb294)); have n12_ := Aside0.mk ((by rw [hg]; exact Nat.ne_of_gt (blk_lt (g := gb259) (o := .cells #[.int .i64 a0_0, .int .i64 a0_1] 23 (0, 0)) (by (with_reducible repeat first | apply b1 | apply b2 | apply b3); exact BK259.out)) : gb294 ≠ gb259)); have n13_ := Aside0.mk ((by rw [hg]; exact Nat.ne_of_lt (blk_lt (g := gb260) (o := .cells #[.int .i64 a1_0, .int .i64 a1_1] 23 (0, 0)) (by (with_reducible repeat first | apply b1 | apply b2 | apply b3); exact BK260.out)) : gb260 ≠ gb294)); have n14_ := Aside0.mk ((by rw [hg]; exact Nat.ne_of_gt (blk_lt (g := gb260) (o := .cells #[.int .i64 a1_0, .int .i64 a1_1] 23 (0, 0)) (by (with_reducible repeat first | apply b1 | apply b2 | apply b3); exact BK260.out)) : gb294 ≠ gb260)); have n15_ := Aside0.mk ((by rw [hg]; exact Nat.ne_of_lt (blk_lt (g := gb261) (o := .cells #[.int .i64 a2_0, .int .i64 a2_1] 23 (0, 0)) (by (with_reducible repeat first | apply b1 | apply b2 | apply b3); exact BK261.out)) : gb261 ≠ gb294)); have n16_ := Aside0.mk ((by rw [hg]; exact Nat.ne_of_gt (blk_lt (g := gb261) (o := .cells #[.int .i64 a2_0, .int .i64 a2_1] 23 (0, 0)) (by (with_reducible repeat first | apply b1 | apply b2 | apply b3); exact BK261.out)) : gb294 ≠ gb261)); have n17_ := Aside0.mk ((by rw [hg]; exact Nat.ne_of_lt (blk_lt (g := gb272) (o := .cells #[.int .i64 t269, .int .i64 t270] 23 (0, 0)) (by (with_reducible repeat first | apply b1 | apply b2 | apply b3); exact BK272.out)) : gb272 ≠ gb294)); have n18_ := Aside0.mk ((by rw [hg]; exact Nat.ne_of_gt (blk_lt (g := gb272) (o := .cells #[.int .i64 t269, .int .i64 t270] 23 (0, 0)) (by (with_reducible repeat first | apply b1 | apply b2 | apply b3); exact BK272.out)) : gb294 ≠ gb272)); have n19_ := Aside0.mk ((by rw [hg]; exact Nat.ne_of_lt (blk_lt (g := gb280) (o := .cells #[.int .i64 t277, .int .i64 t278] 23 (0, 0)) (by (with_reducible repeat first | apply b1 | apply b2 | apply b3); exact BK280.out)) : gb280 ≠ gb294)); have n20_ := Aside0.mk ((by rw [hg]; exact Nat.ne_of_gt (blk_lt (g := gb280) (o := .cells #[.int .i64 t277, .int .i64 t278] 23 (0, 0)) (by (with_reducible repeat first | apply b1 | apply b2 | apply b3); exact BK280.out)) : gb294 ≠ gb280)); have n21_ := Aside0.mk ((by rw [hg]; exact Nat.ne_of_lt (blk_lt (g := gb284) (o := .cells #[.int .i64 t281, .int .i64 t282] 23 (0, 0)) (by (with_reducible repeat first | apply b1 | apply b2 | apply b3); exact BK284.out)) : gb284 ≠ gb294)); have n22_ := Aside0.mk ((by rw [hg]; exact Nat.ne_of_gt (blk_lt (g := gb284) (o := .cells #[.int .i64 t281, .int .i64 t282] 23 (0, 0)) (by (with_reducible repeat first | apply b1 | apply b2 | apply b3); exact BK284.out)) : gb294 ≠ gb284)); have n23_ := Aside0.mk ((by rw [hg]; exact Nat.ne_of_lt (blk_lt (g := gb290) (o := .cells #[.int .i64 t287, .int .i64 t288] 23 (0, 0)) (by (with_reducible repeat first | apply b1 | apply b2 | apply b3); exact BK290.out)) : gb290 ≠ gb294)); have n24_ := Aside0.mk ((by rw [hg]; exact Nat.ne_of_gt (blk_lt (g := gb290) (o := .cells #[.int .i64 t287, .int .i64 t288] 23 (0, 0)) (by (with_reducible repeat first | apply b1 | apply b2 | apply b3); exact BK290.out)) : gb294 ≠ gb290)); clear BK259; clear BK260; clear BK261; clear BK272; clear BK280; clear BK284; clear BK290; clear HB; have BK259 := n0_; have BK260 := n1_; have BK261 := n2_; have BK272 := n3_; have BK280 := n4_; have BK284 := n5_; have BK290 := n6_; have HB := n7_; have BK294 := n8_; have GW294 := n9_; have GE294 := n10_; have NB259_294 := n11_; have NB294_259 := n12_; have NB260_294 := n13_; have NB294_260 := n14_; have NB261_294 := n15_; have NB294_261 := n16_; have NB272_294 := n17_; have NB294_272 := n18_; have NB280_294 := n19_; have NB294_280 := n20_; have NB284_294 := n21_; have NB294_284 := n22_; have NB290_294 := n23_; have NB294_290 := n24_; clear n0_ n1_ n2_ n3_ n4_ n5_ n6_ n7_ n8_ n9_ n10_ n11_ n12_ n13_ n14_ n15_ n16_ n17_ n18_ n19_ n20_ n21_ n22_ n23_ n24_; clear hb hbox hg; have hnb170 := NB294_259.out; have hnc170 := NB259_294.out; have hnb171 := NB294_260.out; have hnc171 := NB260_294.out; have hnb172 := NB294_261.out; have hnc172 := NB261_294.out; have hnb173 := NB294_272.out; have hnc173 := NB272_294.out; have hnb174 := NB294_280.out; have hnc174 := NB280_294.out; have hnb175 := NB294_284.out; have hnc175 := NB284_294.out; have hnb176 := NB294_290.out; have hnc176 := NB290_294.out; have hcz177_0 : w169.cell? ⟨gb294, 0, none⟩ = some (.int .i64 0) := (blk_cell BK294.out 0).trans rfl; have hcz177_1 : w169.cell? ⟨gb294, 1, none⟩ = some (.int .i64 0) := (blk_cell BK294.out 1).trans rfl; have hfz177_0 := blk_frozen BK294.out 0; have hfz177_1 := blk_frozen BK294.out 1; have hcz178_0 : w169.cell? ⟨gb290, 0, none⟩ = some (.int .i64 t287) := (blk_cell BK290.out 0).trans rfl; have hcz178_1 : w169.cell? ⟨gb290, 1, none⟩ = some (.int .i64 t288) := (blk_cell BK290.out 1).trans rfl; have hfz178_0 := blk_frozen BK290.out 0; have hfz178_1 := blk_frozen BK290.out 1) | ((with_reducible refine gate_callee (f := 27) rfl ?_); refine goesL_ (some 160) rfl rfl Tryd.func27 (by kernel_rfl) rfl #[.agg #[.int .i64 t287, .int .i64 t288], .agg #[.int .i64 t291, .int .i64 t292]] rfl (by (try simp only [List.map_toArray, List.map_cons, List.map_nil]); first | done | rfl | (simp only [List.length_drop, List.length_take]; rfl)) ?_; (with_reducible refine (fraction_Compare.calls kj106 t287 t288 t291 t292 t295 t296 _ A141.out).mono ?_); rintro e w179 ⟨rfl, hb⟩; refine ⟨_, rfl, ?_⟩; have n0_ := Aside0.mk (blk_below (g := gb259) (o := .cells #[.int .i64 a0_0, .int .i64 a0_1] 23 (0, 0)) (by (with_reducible repeat first | apply b1 | apply b2 | apply b3); refine blk_far ?_ NB259_294.out _; (with_reducible repeat first | apply b1 | apply b2 | apply b3); refine blk_far ?_ NB259_294.out _; (with_reducible repeat first | apply b1 | apply b2 | apply b3); exact BK259.out) hb); have n1_ := Aside0.mk (blk_below (g := gb260) (o := .cells #[.int .i64 a1_0, .int .i64 a1_1] 23 (0, 0)) (by (with_reducible repeat first | apply b1 | apply b2 | apply b3); refine blk_far ?_ NB260_294.out _; (with_reducible repeat first | apply b1 | apply b2 | apply b3); refine blk_far ?_ NB260_294.out _; (with_reducible repeat first | apply b1 | apply b2 | apply b3); exact BK260.out) hb); have n2_ := Aside0.mk (blk_below (g := gb261) (o := .cells #[.int .i64 a2_0, .int .i64 a2_1] 23 (0, 0)) (by (with_reducible repeat first | apply b1 | apply b2 | apply b3); refine blk_far ?_ NB261_294.out _; (with_reducible repeat first | apply b1 | apply b2 | apply b3); refine blk_far ?_ NB261_294.out _; (with_reducible repeat first | apply b1 | apply b2 | apply b3); exact BK261.out) hb); have n3_ := Aside0.mk (blk_below (g := gb272) (o := .cells #[.int .i64 t269, .int .i64 t270] 23 (0, 0)) (by (with_reducible repeat first | apply b1 | apply b2 | apply b3); refine blk_far ?_ NB272_294.out _; (with_reducible repeat first | apply b1 | apply b2 | apply b3); refine blk_far ?_ NB272_294.out _; (with_reducible repeat first | apply b1 | apply b2 | apply b3); exact BK272.out) hb); have n4_ := Aside0.mk (blk_below (g := gb280) (o := .cells #[.int .i64 t277, .int .i64 t278] 23 (0, 0)) (by (with_reducible repeat first | apply b1 | apply b2 | apply b3); refine blk_far ?_ NB280_294.out _; (with_reducible repeat first | apply b1 | apply b2 | apply b3); refine blk_far ?_ NB280_294.out _; (with_reducible repeat first | apply b1 | apply b2 | apply b3); exact BK280.out) hb); have n5_ := Aside0.mk (blk_below (g := gb284) (o := .cells #[.int .i64 t281, .int .i64 t282] 23 (0, 0)) (by (with_reducible repeat first | apply b1 | apply b2 | apply b3); refine blk_far ?_ NB284_294.out _; (with_reducible repeat first | apply b1 | apply b2 | apply b3); refine blk_far ?_ NB284_294.out _; (with_reducible repeat first | apply b1 | apply b2 | apply b3); exact BK284.out) hb); have n6_ := Aside0.mk (blk_below (g := gb290) (o := .cells #[.int .i64 t287, .int .i64 t288] 23 (0, 0)) (by (with_reducible repeat first | apply b1 | apply b2 | apply b3); refine blk_far ?_ NB290_294.out _; (with_reducible repeat first | apply b1 | apply b2 | apply b3); refine blk_far ?_ NB290_294.out _; (with_reducible repeat first | apply b1 | apply b2 | apply b3); exact BK290.out) hb); have n7_ := Aside0.mk (blk_below (g := gb294) (o := .cells #[.int .i64 t291, .int .i64 t292] 23 (0, 0)) (by (with_reducible repeat first | apply b1 | apply b2 | apply b3); refine blk_put (cs := #[.int .i64 t291, .int .i64 0]) ?_ 1 _ rfl; (with_reducible repeat first | apply b1 | apply b2 | apply b3); refine blk_put (cs := #[.int .i64 0, .int .i64 0]) ?_ 0 _ rfl; (with_reducible repeat first | apply b1 | apply b2 | apply b3); exact BK294.out) hb); have n8_ := Aside0.mk (below_step (by repeat (first | (with_reducible first | exact HB.out | apply b4 | apply b5 | apply b6 | refine below_set ?_ GE259.out | refine below_set ?_ GE260.out | refine below_set ?_ GE261.out | refine below_set ?_ GE272.out | refine below_set ?_ GE280.out | refine below_set ?_ GE284.out | refine below_set ?_ GE290.out | refine below_set ?_ GE294.out) | exact HB.out)) hb); clear BK259; clear BK260; clear BK261; clear BK272; clear BK280; clear BK284; clear BK290; clear BK294; clear HB; have BK259 := n0_; have BK260 := n1_; have BK261 := n2_; have BK272 := n3_; have BK280 := n4_; have BK284 := n5_; have BK290 := n6_; have BK294 := n7_; have HB := n8_; clear n0_ n1_ n2_ n3_ n4_ n5_ n6_ n7_ n8_; (try clear hb); (try clear hb2); (try clear hk); (try clear hi)))
                (try simp only [Act.put, List.setIfInBounds_toArray, List.set_cons_zero, List.set_cons_succ])
                go_cut [6] (fun v6 wc => ∃ (kq : Nat) (x6_141 : Bool), v6 = .bool x6_141 ∧ Aside0 (assessorlaw46_FractionOrder.j4 kq x6_141 = some r) ∧ Aside0 (kq ≤ kj106) ∧ Aside0 (wc.heap[gb259]? = some (.cells #[.int .i64 a0_0, .int .i64 a0_1] 23 (0, 0))) ∧ Aside0 (wc.heap[gb260]? = some (.cells #[.int .i64 a1_0, .int .i64 a1_1] 23 (0, 0))) ∧ Aside0 (wc.heap[gb261]? = some (.cells #[.int .i64 a2_0, .int .i64 a2_1] 23 (0, 0))) ∧ Aside0 (wc.heap[gb272]? = some (.cells #[.int .i64 t269, .int .i64 t270] 23 (0, 0))) ∧ Aside0 (wc.heap[gb280]? = some (.cells #[.int .i64 t277, .int .i64 t278] 23 (0, 0))) ∧ Aside0 (wc.heap[gb284]? = some (.cells #[.int .i64 t281, .int .i64 t282] 23 (0, 0))) ∧ Aside0 (wc.heap[gb290]? = some (.cells #[.int .i64 t287, .int .i64 t288] 23 (0, 0))) ∧ Aside0 (wc.heap[gb294]? = some (.cells #[.int .i64 t291, .int .i64 t292] 23 (0, 0))) ∧ Aside0 (Below w.heap.size w wc))
                case first => as_aux_lemma =>
                 have H := HC142.out
                 clear HC142
                 by_cases c180 : t289 = 0
                 ·
                  rw [if_pos c180] at H
                  have c180b0 : (t289 == 0) = true := beq_iff_eq.mpr c180
                  have c180b1 : (t289 != 0) = false := bne_eq_false_iff_eq.mpr c180
                  clear c180
                  (first | rw [c180b0] | (simp only [i64_w, i32_w]; rw [c180b0]) | skip)
                  by_cases c181 : t293 = 0
                  ·
                   rw [if_pos c181] at H
                   have c181b0 : (t293 == 0) = true := beq_iff_eq.mpr c181
                   have c181b1 : (t293 != 0) = false := bne_eq_false_iff_eq.mpr c181
                   clear c181
                   by_cases c182 : a2_0 < 0
                   ·
                    rw [if_pos c182] at H
                    have c182b0 : decide (a2_0 < 0) = true := decide_eq_true c182
                    clear c182
                    have H' := Aside0.mk H
                    clear H
                    have hnb183 := NB261_259.out
                    have hnc183 := NB259_261.out
                    have hnb184 := NB261_260.out
                    have hnc184 := NB260_261.out
                    have hnb185 := NB261_272.out
                    have hnc185 := NB272_261.out
                    have hnb186 := NB261_280.out
                    have hnc186 := NB280_261.out
                    have hnb187 := NB261_284.out
                    have hnc187 := NB284_261.out
                    have hnb188 := NB261_290.out
                    have hnc188 := NB290_261.out
                    have hnb189 := NB261_294.out
                    have hnc189 := NB294_261.out
                    have hcz190_0 : w179.cell? ⟨gb261, 0, none⟩ = some (.int .i64 a2_0) := (blk_cell BK261.out 0).trans rfl
                    have hcz190_1 : w179.cell? ⟨gb261, 1, none⟩ = some (.int .i64 a2_1) := (blk_cell BK261.out 1).trans rfl
                    have hfz190_0 := blk_frozen BK261.out 0
                    have hfz190_1 := blk_frozen BK261.out 1
                    go_wp2
                    go_meet
                    case rel => exact ⟨_, (true), (by first | rfl | (simp; done) | (simp [*]; done)), H', ⟨by have := HJ7.out; have := HJ65.out; have := HJ85.out; have := HJ106.out; first | omega | exact Nat.le_refl _⟩, ⟨by (with_reducible repeat first | apply b1 | apply b2 | apply b3); exact BK259.out⟩, ⟨by (with_reducible repeat first | apply b1 | apply b2 | apply b3); exact BK260.out⟩, ⟨by (with_reducible repeat first | apply b1 | apply b2 | apply b3); exact BK261.out⟩, ⟨by (with_reducible repeat first | apply b1 | apply b2 | apply b3); exact BK272.out⟩, ⟨by (with_reducible repeat first | apply b1 | apply b2 | apply b3); exact BK280.out⟩, ⟨by (with_reducible repeat first | apply b1 | apply b2 | apply b3); exact BK284.out⟩, ⟨by (with_reducible repeat first | apply b1 | apply b2 | apply b3); exact BK290.out⟩, ⟨by (with_reducible repeat first | apply b1 | apply b2 | apply b3); exact BK294.out⟩, ⟨by repeat (first | (with_reducible first | exact HB.out | apply b4 | apply b5 | apply b6 | refine below_set ?_ GE259.out | refine below_set ?_ GE260.out | refine below_set ?_ GE261.out | refine below_set ?_ GE272.out | refine below_set ?_ GE280.out | refine below_set ?_ GE284.out | refine below_set ?_ GE290.out | refine below_set ?_ GE294.out) | exact HB.out)⟩⟩
                   ·
                    rw [if_neg c182] at H
                    have c182b0 : decide (a2_0 < 0) = false := decide_eq_false c182
                    clear c182
                    by_cases c191 : t296 = true
                    ·
                     subst c191
                     have H1 : (if t263 > 0 then (assessorlaw46_FractionOrder.j4 kj106 true) else (assessorlaw46_FractionOrder.j4 kj106 (decide (t295 ≤ 0)))) = some r := by rw [if_pos rfl] at H; exact H
                     clear H
                     have H := H1
                     clear H1
                     by_cases c192 : t263 > 0
                     ·
                      rw [if_pos c192] at H
                      have c192b0 : decide (0 < t263) = true := decide_eq_true c192
                      clear c192
                      have H' := Aside0.mk H
                      clear H
                      have hnb193 := NB261_259.out
                      have hnc193 := NB259_261.out
                      have hnb194 := NB261_260.out
                      have hnc194 := NB260_261.out
                      have hnb195 := NB261_272.out
                      have hnc195 := NB272_261.out
                      have hnb196 := NB261_280.out
                      have hnc196 := NB280_261.out
                      have hnb197 := NB261_284.out
                      have hnc197 := NB284_261.out
                      have hnb198 := NB261_290.out
                      have hnc198 := NB290_261.out
                      have hnb199 := NB261_294.out
                      have hnc199 := NB294_261.out
                      have hcz200_0 : w179.cell? ⟨gb261, 0, none⟩ = some (.int .i64 a2_0) := (blk_cell BK261.out 0).trans rfl
                      have hcz200_1 : w179.cell? ⟨gb261, 1, none⟩ = some (.int .i64 a2_1) := (blk_cell BK261.out 1).trans rfl
                      have hfz200_0 := blk_frozen BK261.out 0
                      have hfz200_1 := blk_frozen BK261.out 1
                      go_wp2
                      go_meet
                      case rel => exact ⟨_, (true), (by first | rfl | (simp; done) | (simp [*]; done)), H', ⟨by have := HJ7.out; have := HJ65.out; have := HJ85.out; have := HJ106.out; first | omega | exact Nat.le_refl _⟩, ⟨by (with_reducible repeat first | apply b1 | apply b2 | apply b3); exact BK259.out⟩, ⟨by (with_reducible repeat first | apply b1 | apply b2 | apply b3); exact BK260.out⟩, ⟨by (with_reducible repeat first | apply b1 | apply b2 | apply b3); exact BK261.out⟩, ⟨by (with_reducible repeat first | apply b1 | apply b2 | apply b3); exact BK272.out⟩, ⟨by (with_reducible repeat first | apply b1 | apply b2 | apply b3); exact BK280.out⟩, ⟨by (with_reducible repeat first | apply b1 | apply b2 | apply b3); exact BK284.out⟩, ⟨by (with_reducible repeat first | apply b1 | apply b2 | apply b3); exact BK290.out⟩, ⟨by (with_reducible repeat first | apply b1 | apply b2 | apply b3); exact BK294.out⟩, ⟨by repeat (first | (with_reducible first | exact HB.out | apply b4 | apply b5 | apply b6 | refine below_set ?_ GE259.out | refine below_set ?_ GE260.out | refine below_set ?_ GE261.out | refine below_set ?_ GE272.out | refine below_set ?_ GE280.out | refine below_set ?_ GE284.out | refine below_set ?_ GE290.out | refine below_set ?_ GE294.out) | exact HB.out)⟩⟩
                     ·
                      rw [if_neg c192] at H
                      have c192b0 : decide (0 < t263) = false := decide_eq_false c192
                      clear c192
                      have H' := Aside0.mk H
                      clear H
                      have hnb201 := NB261_259.out
                      have hnc201 := NB259_261.out
                      have hnb202 := NB261_260.out
                      have hnc202 := NB260_261.out
                      have hnb203 := NB261_272.out
                      have hnc203 := NB272_261.out
                      have hnb204 := NB261_280.out
                      have hnc204 := NB280_261.out
                      have hnb205 := NB261_284.out
                      have hnc205 := NB284_261.out
                      have hnb206 := NB261_290.out
                      have hnc206 := NB290_261.out
                      have hnb207 := NB261_294.out
                      have hnc207 := NB294_261.out
                      have hcz208_0 : w179.cell? ⟨gb261, 0, none⟩ = some (.int .i64 a2_0) := (blk_cell BK261.out 0).trans rfl
                      have hcz208_1 : w179.cell? ⟨gb261, 1, none⟩ = some (.int .i64 a2_1) := (blk_cell BK261.out 1).trans rfl
                      have hfz208_0 := blk_frozen BK261.out 0
                      have hfz208_1 := blk_frozen BK261.out 1
                      go_wp2
                      go_meet
                      case rel => exact ⟨_, (decide (t295 ≤ 0)), (by first | rfl | (simp; done) | (simp [*]; done)), H', ⟨by have := HJ7.out; have := HJ65.out; have := HJ85.out; have := HJ106.out; first | omega | exact Nat.le_refl _⟩, ⟨by (with_reducible repeat first | apply b1 | apply b2 | apply b3); exact BK259.out⟩, ⟨by (with_reducible repeat first | apply b1 | apply b2 | apply b3); exact BK260.out⟩, ⟨by (with_reducible repeat first | apply b1 | apply b2 | apply b3); exact BK261.out⟩, ⟨by (with_reducible repeat first | apply b1 | apply b2 | apply b3); exact BK272.out⟩, ⟨by (with_reducible repeat first | apply b1 | apply b2 | apply b3); exact BK280.out⟩, ⟨by (with_reducible repeat first | apply b1 | apply b2 | apply b3); exact BK284.out⟩, ⟨by (with_reducible repeat first | apply b1 | apply b2 | apply b3); exact BK290.out⟩, ⟨by (with_reducible repeat first | apply b1 | apply b2 | apply b3); exact BK294.out⟩, ⟨by repeat (first | (with_reducible first | exact HB.out | apply b4 | apply b5 | apply b6 | refine below_set ?_ GE259.out | refine below_set ?_ GE260.out | refine below_set ?_ GE261.out | refine below_set ?_ GE272.out | refine below_set ?_ GE280.out | refine below_set ?_ GE284.out | refine below_set ?_ GE290.out | refine below_set ?_ GE294.out) | exact HB.out)⟩⟩
                    ·
                     replace c191 := Bool.eq_false_iff.mpr c191
                     subst c191
                     have H1 : (assessorlaw46_FractionOrder.j4 kj106 false) = some r := by rw [if_neg (show ¬ (false = true) by decide)] at H; exact H
                     clear H
                     have H := H1
                     clear H1
                     have H' := Aside0.mk H
                     clear H
                     have hnb209 := NB261_259.out
                     have hnc209 := NB259_261.out
                     have hnb210 := NB261_260.out
                     have hnc210 := NB260_261.out
                     have hnb211 := NB261_272.out
                     have hnc211 := NB272_261.out
                     have hnb212 := NB261_280.out
                     have hnc212 := NB280_261.out
                     have hnb213 := NB261_284.out
                     have hnc213 := NB284_261.out
                     have hnb214 := NB261_290.out
                     have hnc214 := NB290_261.out
                     have hnb215 := NB261_294.out
                     have hnc215 := NB294_261.out
                     have hcz216_0 : w179.cell? ⟨gb261, 0, none⟩ = some (.int .i64 a2_0) := (blk_cell BK261.out 0).trans rfl
                     have hcz216_1 : w179.cell? ⟨gb261, 1, none⟩ = some (.int .i64 a2_1) := (blk_cell BK261.out 1).trans rfl
                     have hfz216_0 := blk_frozen BK261.out 0
                     have hfz216_1 := blk_frozen BK261.out 1
                     go_wp2
                     go_meet
                     case rel => exact ⟨_, (false), (by first | rfl | (simp; done) | (simp [*]; done)), H', ⟨by have := HJ7.out; have := HJ65.out; have := HJ85.out; have := HJ106.out; first | omega | exact Nat.le_refl _⟩, ⟨by (with_reducible repeat first | apply b1 | apply b2 | apply b3); exact BK259.out⟩, ⟨by (with_reducible repeat first | apply b1 | apply b2 | apply b3); exact BK260.out⟩, ⟨by (with_reducible repeat first | apply b1 | apply b2 | apply b3); exact BK261.out⟩, ⟨by (with_reducible repeat first | apply b1 | apply b2 | apply b3); exact BK272.out⟩, ⟨by (with_reducible repeat first | apply b1 | apply b2 | apply b3); exact BK280.out⟩, ⟨by (with_reducible repeat first | apply b1 | apply b2 | apply b3); exact BK284.out⟩, ⟨by (with_reducible repeat first | apply b1 | apply b2 | apply b3); exact BK290.out⟩, ⟨by (with_reducible repeat first | apply b1 | apply b2 | apply b3); exact BK294.out⟩, ⟨by repeat (first | (with_reducible first | exact HB.out | apply b4 | apply b5 | apply b6 | refine below_set ?_ GE259.out | refine below_set ?_ GE260.out | refine below_set ?_ GE261.out | refine below_set ?_ GE272.out | refine below_set ?_ GE280.out | refine below_set ?_ GE284.out | refine below_set ?_ GE290.out | refine below_set ?_ GE294.out) | exact HB.out)⟩⟩
                  ·
                   rw [if_neg c181] at H
                   have c181b0 : (t293 == 0) = false := beq_eq_false_iff_ne.mpr c181
                   have c181b1 : (t293 != 0) = true := bne_iff_ne.mpr c181
                   have H' := Aside0.mk H
                   clear H
                   go_wp2
                   go_meet
                   case rel => exact ⟨_, (true), (by first | rfl | (simp; done) | (simp [*]; done)), H', ⟨by have := HJ7.out; have := HJ65.out; have := HJ85.out; have := HJ106.out; first | omega | exact Nat.le_refl _⟩, ⟨by (with_reducible repeat first | apply b1 | apply b2 | apply b3); exact BK259.out⟩, ⟨by (with_reducible repeat first | apply b1 | apply b2 | apply b3); exact BK260.out⟩, ⟨by (with_reducible repeat first | apply b1 | apply b2 | apply b3); exact BK261.out⟩, ⟨by (with_reducible repeat first | apply b1 | apply b2 | apply b3); exact BK272.out⟩, ⟨by (with_reducible repeat first | apply b1 | apply b2 | apply b3); exact BK280.out⟩, ⟨by (with_reducible repeat first | apply b1 | apply b2 | apply b3); exact BK284.out⟩, ⟨by (with_reducible repeat first | apply b1 | apply b2 | apply b3); exact BK290.out⟩, ⟨by (with_reducible repeat first | apply b1 | apply b2 | apply b3); exact BK294.out⟩, ⟨by repeat (first | (with_reducible first | exact HB.out | apply b4 | apply b5 | apply b6 | refine below_set ?_ GE259.out | refine below_set ?_ GE260.out | refine below_set ?_ GE261.out | refine below_set ?_ GE272.out | refine below_set ?_ GE280.out | refine below_set ?_ GE284.out | refine below_set ?_ GE290.out | refine below_set ?_ GE294.out) | exact HB.out)⟩⟩
                 ·
                  rw [if_neg c180] at H
                  have c180b0 : (t289 == 0) = false := beq_eq_false_iff_ne.mpr c180
                  have c180b1 : (t289 != 0) = true := bne_iff_ne.mpr c180
                  (first | rw [c180b0] | (simp only [i64_w, i32_w]; rw [c180b0]) | skip)
                  have H' := Aside0.mk H
                  clear H
                  go_wp2
                  go_meet
                  case rel => exact ⟨_, (true), (by first | rfl | (simp; done) | (simp [*]; done)), H', ⟨by have := HJ7.out; have := HJ65.out; have := HJ85.out; have := HJ106.out; first | omega | exact Nat.le_refl _⟩, ⟨by (with_reducible repeat first | apply b1 | apply b2 | apply b3); exact BK259.out⟩, ⟨by (with_reducible repeat first | apply b1 | apply b2 | apply b3); exact BK260.out⟩, ⟨by (with_reducible repeat first | apply b1 | apply b2 | apply b3); exact BK261.out⟩, ⟨by (with_reducible repeat first | apply b1 | apply b2 | apply b3); exact BK272.out⟩, ⟨by (with_reducible repeat first | apply b1 | apply b2 | apply b3); exact BK280.out⟩, ⟨by (with_reducible repeat first | apply b1 | apply b2 | apply b3); exact BK284.out⟩, ⟨by (with_reducible repeat first | apply b1 | apply b2 | apply b3); exact BK290.out⟩, ⟨by (with_reducible repeat first | apply b1 | apply b2 | apply b3); exact BK294.out⟩, ⟨by repeat (first | (with_reducible first | exact HB.out | apply b4 | apply b5 | apply b6 | refine below_set ?_ GE259.out | refine below_set ?_ GE260.out | refine below_set ?_ GE261.out | refine below_set ?_ GE272.out | refine below_set ?_ GE280.out | refine below_set ?_ GE284.out | refine below_set ?_ GE290.out | refine below_set ?_ GE294.out) | exact HB.out)⟩⟩
                case rest => as_aux_lemma =>
                 clear HC142
                 try clear c1
                 try clear c2
                 try clear p2
                 try clear c3
                 try clear c4
                 try clear c5
                 try clear c6
                 try clear p6
                 try clear c7
                 try clear c8
                 try clear c9
                 try clear c10
                 try clear c11
                 try clear c12
                 try clear c13
                 try clear c14
                 try clear c15
                 try clear c16
                 try clear c17
                 try clear c18
                 try clear c19
                 try clear c20
                 try clear c21
                 try clear c22
                 try clear c23
                 try clear c25
                 try clear c25b0
                 try clear c25b1
                 try clear c25b2
                 try clear c26
                 try clear c27
                 try clear c30
                 try clear c33
                 try clear c33b0
                 try clear c33b1
                 try clear c33b2
                 try clear c34
                 try clear c35
                 try clear c38
                 try clear c41
                 try clear c42
                 try clear c45
                 try clear c48
                 try clear c49
                 try clear c50
                 try clear c53
                 try clear c54
                 try clear c55
                 try clear c58
                 try clear c59
                 try clear c62
                 try clear c63
                 try clear c64
                 try clear c64b0
                 try clear c64b1
                 try clear c64b2
                 try clear p64
                 try clear c67
                 try clear c68
                 try clear c70
                 try clear c74
                 try clear c75
                 try clear c76
                 try clear c78
                 try clear c78b0
                 try clear c78b1
                 try clear c79
                 try clear c80
                 try clear c81
                 try clear c83
                 try clear c87
                 try clear c88
                 try clear c89
                 try clear c91
                 try clear c92
                 try clear c95
                 try clear c99
                 try clear c100
                 try clear c101
                 try clear c101b0
                 try clear c102
                 try clear c102b0
                 try clear c103
                 try clear c108
                 try clear c109
                 try clear c110
                 try clear c112
                 try clear c113
                 try clear c117
                 try clear c118
                 try clear c119
                 try clear c120
                 try clear c122
                 try clear c127
                 try clear c128
                 try clear c129
                 try clear c130
                 try clear c131
                 try clear c135
                 try clear c135b0
                 try clear c135b1
                 try clear c136
                 try clear c136b0
                 try clear c136b1
                 try clear c137
                 try clear c138
                 try clear c143
                 try clear c144
                 try clear c145
                 try clear c146
                 try clear c147
                 try clear c149
                 try clear c150
                 try clear c151
                 try clear c152
                 try clear c156
                 try clear c157
                 try clear c158
                 try clear c159
                 try clear c160
                 try clear c161
                 try clear c163
                 try clear c164
                 try clear c165
                 try clear c170
                 try clear c171
                 try clear c172
                 try clear c173
                 try clear c174
                 try clear c175
                 try clear c176
                 try clear c180
                 try clear c180b0
                 try clear c180b1
                 try clear c181
                 try clear c181b0
                 try clear c181b1
                 try clear c182
                 try clear c182b0
                 try clear c183
                 try clear c184
                 try clear c185
                 try clear c186
                 try clear c187
                 try clear c188
                 try clear c189
                 try clear c191
                 try clear c192
                 try clear c192b0
                 try clear c193
                 try clear c194
                 try clear c195
                 try clear c196
                 try clear c197
                 try clear c198
                 try clear c199
                 try clear c201
                 try clear c202
                 try clear c203
                 try clear c204
                 try clear c205
                 try clear c206
                 try clear c207
                 try clear c209
                 try clear c210
                 try clear c211
                 try clear c212
                 try clear c213
                 try clear c214
                 try clear c215
                 try clear hcz111_0
                 try clear hcz111_1
                 try clear hcz114_0
                 try clear hcz114_1
                 try clear hcz121_0
                 try clear hcz121_1
                 try clear hcz123_0
                 try clear hcz123_1
                 try clear hcz124_0
                 try clear hcz124_1
                 try clear hcz132_0
                 try clear hcz132_1
                 try clear hcz133_0
                 try clear hcz133_1
                 try clear hcz148_0
                 try clear hcz148_1
                 try clear hcz153_0
                 try clear hcz153_1
                 try clear hcz15_0
                 try clear hcz15_1
                 try clear hcz162_0
                 try clear hcz162_1
                 try clear hcz166_0
                 try clear hcz166_1
                 try clear hcz167_0
                 try clear hcz167_1
                 try clear hcz177_0
                 try clear hcz177_1
                 try clear hcz178_0
                 try clear hcz178_1
                 try clear hcz17_0
                 try clear hcz17_1
                 try clear hcz190_0
                 try clear hcz190_1
                 try clear hcz19_0
                 try clear hcz19_1
                 try clear hcz200_0
                 try clear hcz200_1
                 try clear hcz208_0
                 try clear hcz208_1
                 try clear hcz20_0
                 try clear hcz20_1
                 try clear hcz216_0
                 try clear hcz216_1
                 try clear hcz28_0
                 try clear hcz28_1
                 try clear hcz31_0
                 try clear hcz31_1
                 try clear hcz36_0
                 try clear hcz36_1
                 try clear hcz39_0
                 try clear hcz39_1
                 try clear hcz43_0
                 try clear hcz43_1
                 try clear hcz46_0
                 try clear hcz46_1
                 try clear hcz51_0
                 try clear hcz51_1
                 try clear hcz56_0
                 try clear hcz56_1
                 try clear hcz60_0
                 try clear hcz60_1
                 try clear hcz69_0
                 try clear hcz69_1
                 try clear hcz71_0
                 try clear hcz71_1
                 try clear hcz77_0
                 try clear hcz77_1
                 try clear hcz82_0
                 try clear hcz82_1
                 try clear hcz90_0
                 try clear hcz90_1
                 try clear hcz93_0
                 try clear hcz93_1
                 try clear hcz96_0
                 try clear hcz96_1
                 try clear hcz97_0
                 try clear hcz97_1
                 try clear hfz111_0
                 try clear hfz111_1
                 try clear hfz114_0
                 try clear hfz114_1
                 try clear hfz121_0
                 try clear hfz121_1
                 try clear hfz123_0
                 try clear hfz123_1
                 try clear hfz124_0
                 try clear hfz124_1
                 try clear hfz132_0
                 try clear hfz132_1
                 try clear hfz133_0
                 try clear hfz133_1
                 try clear hfz148_0
                 try clear hfz148_1
                 try clear hfz153_0
                 try clear hfz153_1
                 try clear hfz15_0
                 try clear hfz15_1
                 try clear hfz162_0
                 try clear hfz162_1
                 try clear hfz166_0
                 try clear hfz166_1
                 try clear hfz167_0
                 try clear hfz167_1
                 try clear hfz177_0
                 try clear hfz177_1
                 try clear hfz178_0
                 try clear hfz178_1
                 try clear hfz17_0
                 try clear hfz17_1
                 try clear hfz190_0
                 try clear hfz190_1
                 try clear hfz19_0
                 try clear hfz19_1
                 try clear hfz200_0
                 try clear hfz200_1
                 try clear hfz208_0
                 try clear hfz208_1
                 try clear hfz20_0
                 try clear hfz20_1
                 try clear hfz216_0
                 try clear hfz216_1
                 try clear hfz28_0
                 try clear hfz28_1
                 try clear hfz31_0
                 try clear hfz31_1
                 try clear hfz36_0
                 try clear hfz36_1
                 try clear hfz39_0
                 try clear hfz39_1
                 try clear hfz43_0
                 try clear hfz43_1
                 try clear hfz46_0
                 try clear hfz46_1
                 try clear hfz51_0
                 try clear hfz51_1
                 try clear hfz56_0
                 try clear hfz56_1
                 try clear hfz60_0
                 try clear hfz60_1
                 try clear hfz69_0
                 try clear hfz69_1
                 try clear hfz71_0
                 try clear hfz71_1
                 try clear hfz77_0
                 try clear hfz77_1
                 try clear hfz82_0
                 try clear hfz82_1
                 try clear hfz90_0
                 try clear hfz90_1
                 try clear hfz93_0
                 try clear hfz93_1
                 try clear hfz96_0
                 try clear hfz96_1
                 try clear hfz97_0
                 try clear hfz97_1
                 try clear p2
                 try clear p6
                 try clear p64
                 obtain ⟨kq, x6_141, rfl, HA, HJ141, BK259, BK260, BK261, BK272, BK280, BK284, BK290, BK294, HB⟩ := hcut
                 cases kq with
                 | zero => exact absurd HA.out (by simp [assessorlaw46_FractionOrder.j4])
                 | succ kj141 =>
                  have H := HA.out
                  clear HA
                  simp only [assessorlaw46_FractionOrder.j4] at H
                  obtain rfl := Option.some.inj H
                  simp only [Option.some.injEq, Prod.mk.injEq] at H
                  obtain ⟨rfl⟩ := H
                  go_wp2
                  go_ret
                  exact ⟨by first | rfl | (simp [errW_none, errW_some] <;> rfl) | (simp [*, errW_none, errW_some] <;> rfl), by repeat (first | (with_reducible first | exact HB.out | apply b4 | apply b5 | apply b6 | refine below_set ?_ GE259.out | refine below_set ?_ GE260.out | refine below_set ?_ GE261.out | refine below_set ?_ GE272.out | refine below_set ?_ GE280.out | refine below_set ?_ GE284.out | refine below_set ?_ GE290.out | refine below_set ?_ GE294.out) | exact HB.out)⟩
     ·
      replace c63 := Bool.eq_false_iff.mpr c63
      subst c63
      have H1 : (some (t263 == 0)) = some r := by rw [if_neg (show ¬ (false = true) by decide)] at H; exact H
      clear H
      have H := H1
      clear H1
      obtain rfl := Option.some.inj H
      simp only [Option.some.injEq, Prod.mk.injEq] at H
      obtain ⟨rfl⟩ := H
      go_wp2
      go_ret
      exact ⟨by first | rfl | (simp [errW_none, errW_some] <;> rfl) | (simp [*, errW_none, errW_some] <;> rfl), by repeat (first | (with_reducible first | exact HB.out | apply b4 | apply b5 | apply b6 | refine below_set ?_ GE259.out | refine below_set ?_ GE260.out | refine below_set ?_ GE261.out) | exact HB.out)⟩
 ·
  replace c5 := Bool.eq_false_iff.mpr c5
  subst c5
  have H1 : (some false) = some r := by rw [if_neg (show ¬ (false = true) by decide)] at H; exact H
  clear H
  have H := H1
  clear H1
  obtain rfl := Option.some.inj H
  exact absurd hr_.out (by simp)

end Go.Proofs.YtkfibjmjamdigaaDoor.Q
/- Plain facts on the functions that the printed texts tell: greatest common divisors, validity, reduction, rounding down. -/
namespace Go.Proofs.YtkfibjmjamdigaaDoor.Q
open Go.RowKit Go.Proofs.YtkfibjmjamdigaaDoorW.PrintWords Go.Proofs.YtkfibjmjamdigaaDoorW.PrintLast Go.Proofs.YtkfibjmjamdigaaDoorW.PrintMore
theorem mono_le {α : Type} {f : Nat → Option α} (h : ∀ k, LeO (f k) (f (k + 1))) {k m : Nat} (hk : k ≤ m) : LeO (f k) (f m) := by
  induction hk with
  | refl => exact LeO.refl _
  | step _ ih => exact ih.trans (h _)
theorem w64 {x : Int} (h : -9223372036854775808 ≤ x) (h2 : x ≤ 9223372036854775807) : wrap64 x = x := by unfold wrap64; omega
theorem awake_60 : assessorlaw46_awake.f 60 = some true := by kernel_rfl
theorem awake_true {k : Nat} (hk : 60 ≤ k) : assessorlaw46_awake.f k = some true := mono_le (f := fun k => assessorlaw46_awake.f k) (fun k => assessorlaw46_awake.mono k) hk _ awake_60

theorem divisor_gcd : ∀ (y k x : Nat), y < k → fraction_divisor.l0 k (x : Int) (y : Int) = some ((Nat.gcd x y : Nat) : Int) := by
  intro y
  induction y using Nat.strongRecOn with
  | ind y ih =>
    intro k x hk
    obtain ⟨k, rfl⟩ : ∃ m, k = m + 1 := ⟨k - 1, by omega⟩
    simp only [fraction_divisor.l0]
    by_cases h : y = 0
    · subst h
      rw [if_neg (by omega)]
      simp
    · rw [if_pos (by omega), if_neg (by omega)]
      have e : Int.tmod (x : Int) (y : Int) = ((x % y : Nat) : Int) := by rw [Int.tmod_eq_emod_of_nonneg (by omega)]; simp
      rw [e, ih (x % y) (Nat.mod_lt _ (by omega)) k y (by have := Nat.mod_lt x (by omega : y > 0); omega)]
      rw [Nat.gcd_comm y (x % y), ← Nat.gcd_rec y x, Nat.gcd_comm y x]
theorem divisor_int {k : Nat} {a b : Int} (ha : 0 ≤ a) (hb : 0 ≤ b) (hk : b < k) : fraction_divisor.f k a b = some ((Nat.gcd a.natAbs b.natAbs : Nat) : Int) := by
  unfold fraction_divisor.f
  have := divisor_gcd b.natAbs k a.natAbs (by omega)
  rwa [show ((a.natAbs : Nat) : Int) = a by omega, show ((b.natAbs : Nat) : Int) = b by omega] at this
theorem abs_f {a : Int} (h : -9223372036854775807 ≤ a) (h2 : a ≤ 9223372036854775807) : fraction_abs.f a = some ((a.natAbs : Nat) : Int) := by
  unfold fraction_abs.f
  rw [w64 (by omega) (by omega)]
  unfold mx
  split <;> (congr 1; omega)
/-- A valid fraction. -/
def V (n d : Int) : Prop := 1 ≤ d ∧ d ≤ 1000000 ∧ -1000000000 ≤ n ∧ n ≤ 1000000000 ∧ Nat.gcd n.natAbs d.natAbs = 1
instance (n d : Int) : Decidable (V n d) := by unfold V; infer_instance
theorem valid_f {k : Nat} (hk : 1000000 < k) (n d : Int) : fraction_Valid.f k n d = some (decide (V n d)) := by
  unfold fraction_Valid.f
  by_cases h1 : d ≥ 1
  · by_cases h2 : d ≤ 1000000
    · by_cases h3 : n ≥ -1000000000
      · by_cases h4 : n ≤ 1000000000
        · rw [if_pos h1, if_pos h2, if_pos h3, if_pos h4, abs_f (by omega) (by omega)]
          simp only [Option.bind_some]
          rw [divisor_int (by omega) (by omega) (by omega)]
          simp only [Option.bind_some, Option.some.injEq]
          rw [Bool.eq_iff_iff]
          rw [beq_iff_eq, decide_eq_true_eq, Int.natAbs_natCast]
          constructor
          · intro h
            exact ⟨h1, h2, h3, h4, by omega⟩
          · intro h
            have := h.2.2.2.2
            omega
        · rw [if_pos h1, if_pos h2, if_pos h3, if_neg h4]; exact congrArg some (decide_eq_false (fun h => h4 h.2.2.2.1)).symm
      · rw [if_pos h1, if_pos h2, if_neg h3]; exact congrArg some (decide_eq_false (fun h => h3 h.2.2.1)).symm
    · rw [if_pos h1, if_neg h2]; exact congrArg some (decide_eq_false (fun h => h2 h.2.1)).symm
  · rw [if_neg h1]; exact congrArg some (decide_eq_false (fun h => h1 h.1)).symm
theorem floor_f {a b : Int} (hb : 1 ≤ b) (h1 : -4611686018427387904 ≤ a) (h2 : a ≤ 4611686018427387904) : ∃ q, fraction_floor.f a b = some q ∧ b * q ≤ a ∧ a < b * q + b := by
  have e := Int.mul_tdiv_add_tmod a b
  have l1 : Int.tmod a b < b := Int.tmod_lt_of_pos a (by omega)
  have l2 : -b < Int.tmod a b := Int.lt_tmod_of_pos a (by omega)
  have n1 : (Int.tdiv a b).natAbs ≤ a.natAbs := by
    rw [Int.natAbs_tdiv]
    exact Nat.div_le_self _ _
  unfold fraction_floor.f
  rw [if_neg (by omega), w64 (x := Int.tdiv a b) (by omega) (by omega)]
  by_cases h : Int.tmod a b < 0
  · rw [if_pos h, w64 (by omega) (by omega)]
    refine ⟨_, rfl, ?_, ?_⟩
    · rw [Int.mul_sub, Int.mul_one]; generalize b * Int.tdiv a b = t at *; omega
    · rw [Int.mul_sub, Int.mul_one]; generalize b * Int.tdiv a b = t at *; omega
  · rw [if_neg h]
    refine ⟨_, rfl, ?_, ?_⟩
    · generalize b * Int.tdiv a b = t at *; omega
    · generalize b * Int.tdiv a b = t at *; omega
theorem cmp_f (a b : Int) : cmp_Compare_int.f a b = some (if a < b then -1 else if a > b then 1 else 0) := by
  unfold cmp_Compare_int.f cmp_isNaN_int.f
  simp only [bne_self_eq_false, Option.bind_some, Bool.false_eq_true, if_false]
  split
  · rfl
  · split <;> rfl
/-- |q| is at most X where d * q is. -/
theorem quot_bound {d q X : Int} (hd : 1 ≤ d) (h1 : -X ≤ d * q + d) (h2 : d * q ≤ X) (hx : 0 ≤ X) : -X - 1 ≤ q ∧ q ≤ X := by
  constructor
  · rcases Int.le_total 0 (q + 1) with h | h
    · omega
    · have e : d * (q + 1) = d * q + d := by rw [Int.mul_add, Int.mul_one]
      have := Int.mul_le_mul_of_nonneg_right (a := 1) (b := d) (c := -(q + 1)) hd (by omega)
      have e2 : d * (-(q + 1)) = -(d * (q + 1)) := by rw [Int.mul_neg]
      omega
  · rcases Int.le_total q 0 with h | h
    · omega
    · have := Int.mul_le_mul_of_nonneg_right (a := 1) (b := d) (c := q) hd h
      omega
end Go.Proofs.YtkfibjmjamdigaaDoor.Q
/- Reduction to lowest terms: what 'reduced' and the four operations return, told by cross products. -/
namespace Go.Proofs.YtkfibjmjamdigaaDoor.Q
set_option linter.unusedVariables false
open Go.RowKit Go.Proofs.YtkfibjmjamdigaaDoorW.PrintWords Go.Proofs.YtkfibjmjamdigaaDoorW.PrintLast Go.Proofs.YtkfibjmjamdigaaDoorW.PrintMore
theorem coprime_unique {x y n d : Int} (hy : 1 ≤ y) (hd : 1 ≤ d) (h1 : Nat.gcd x.natAbs y.natAbs = 1) (h2 : Nat.gcd n.natAbs d.natAbs = 1) (h : x * d = n * y) : x = n ∧ y = d := by
  have e : x.natAbs * d.natAbs = n.natAbs * y.natAbs := by rw [← Int.natAbs_mul, ← Int.natAbs_mul, h]
  have c1 : Nat.Coprime y.natAbs x.natAbs := by rw [Nat.Coprime, Nat.gcd_comm]; exact h1
  have c2 : Nat.Coprime d.natAbs n.natAbs := by rw [Nat.Coprime, Nat.gcd_comm]; exact h2
  have d1 : y.natAbs ∣ d.natAbs := c1.dvd_of_dvd_mul_left (by rw [e]; exact Nat.dvd_mul_left _ _)
  have d2 : d.natAbs ∣ y.natAbs := c2.dvd_of_dvd_mul_left (by rw [← e]; exact Nat.dvd_mul_left _ _)
  have e2 : y = d := by have := Nat.dvd_antisymm d1 d2; omega
  subst e2
  exact ⟨Int.eq_of_mul_eq_mul_right (by omega) h, rfl⟩
/-- r is the fraction of value n / d in lowest terms, or the error 2 where none is valid. -/
def Red (n d r1 r2 r3 : Int) : Prop := (r3 = 0 ∧ V r1 r2 ∧ r1 * d = n * r2) ∨ (r3 = 2 ∧ r1 = 0 ∧ r2 = 0 ∧ ∀ x y, V x y → x * d ≠ n * y)
theorem V.unique {n d x y u v : Int} (hd : d ≠ 0) (h1 : V x y) (h2 : V u v) (e1 : x * d = n * y) (e2 : u * d = n * v) : x = u ∧ y = v := by
  obtain ⟨a1, _, _, _, a5⟩ := h1
  obtain ⟨b1, _, _, _, b5⟩ := h2
  refine coprime_unique a1 b1 a5 b5 (Int.eq_of_mul_eq_mul_right hd ?_)
  calc x * v * d = x * d * v := by grind
    _ = n * y * v := by rw [e1]
    _ = n * v * y := by grind
    _ = u * d * y := by rw [e2]
    _ = u * y * d := by grind
theorem Red.unique {n d r1 r2 r3 s1 s2 s3 : Int} (hd : d ≠ 0) (h : Red n d r1 r2 r3) (g : Red n d s1 s2 s3) : r1 = s1 ∧ r2 = s2 ∧ r3 = s3 := by
  rcases h with ⟨h1, h2, h3⟩ | ⟨h1, h2, h3, h4⟩
  · rcases g with ⟨g1, g2, g3⟩ | ⟨g1, g2, g3, g4⟩
    · obtain ⟨e1, e2⟩ := V.unique hd h2 g2 h3 g3
      exact ⟨e1, e2, by omega⟩
    · exact absurd h3 (g4 _ _ h2)
  · rcases g with ⟨g1, g2, g3⟩ | ⟨g1, g2, g3, g4⟩
    · exact absurd g3 (h4 _ _ g2)
    · omega
theorem red_pos {n d g : Int} (hd : 1 ≤ d) (hg : g = ((Nat.gcd n.natAbs d.natAbs : Nat) : Int)) : 1 ≤ g ∧ n = g * Int.tdiv n g ∧ d = g * Int.tdiv d g ∧ 1 ≤ Int.tdiv d g ∧ Nat.gcd (Int.tdiv n g).natAbs (Int.tdiv d g).natAbs = 1 ∧ (Int.tdiv n g).natAbs ≤ n.natAbs ∧ (Int.tdiv d g).natAbs ≤ d.natAbs := by
  have p : 0 < Nat.gcd n.natAbs d.natAbs := Nat.gcd_pos_of_pos_right _ (by omega)
  have h1 : g ∣ n := by rw [hg]; exact Int.ofNat_dvd_left.2 (Nat.gcd_dvd_left _ _)
  have h2 : g ∣ d := by rw [hg]; exact Int.ofNat_dvd_left.2 (Nat.gcd_dvd_right _ _)
  have e1 : g * Int.tdiv n g = n := Int.mul_tdiv_cancel' h1
  have e2 : g * Int.tdiv d g = d := Int.mul_tdiv_cancel' h2
  have ga : g.natAbs = Nat.gcd n.natAbs d.natAbs := by rw [hg]; simp
  refine ⟨by omega, e1.symm, e2.symm, ?_, ?_, ?_, ?_⟩
  · rcases Int.le_total (Int.tdiv d g) 0 with h | h
    · have := Int.mul_le_mul_of_nonneg_left (a := Int.tdiv d g) (b := 0) (c := g) h (by omega)
      omega
    · rcases Int.le_iff_lt_or_eq.1 h with h | h
      · omega
      · rw [← h] at e2; omega
  · rw [Int.natAbs_tdiv, Int.natAbs_tdiv, ga]
    exact Nat.coprime_div_gcd_div_gcd p
  · rw [Int.natAbs_tdiv]; exact Nat.div_le_self _ _
  · rw [Int.natAbs_tdiv]; exact Nat.div_le_self _ _
theorem red_of {n d g : Int} (hd : 1 ≤ d) (hg : g = ((Nat.gcd n.natAbs d.natAbs : Nat) : Int)) : (V (Int.tdiv n g) (Int.tdiv d g) → Red n d (Int.tdiv n g) (Int.tdiv d g) 0) ∧ (¬ V (Int.tdiv n g) (Int.tdiv d g) → Red n d 0 0 2) := by
  obtain ⟨h1, h2, h3, h4, h5, _, _⟩ := red_pos hd hg
  generalize Int.tdiv n g = n' at *
  generalize Int.tdiv d g = d' at *
  subst h2 h3
  refine ⟨fun h => .inl ⟨rfl, h, by grind⟩, fun h => .inr ⟨rfl, rfl, rfl, fun x y hv e => h ?_⟩⟩
  have e' : x * d' = n' * y := by
    refine Int.eq_of_mul_eq_mul_left (a := g) (by omega) ?_
    calc g * (x * d') = x * (g * d') := by grind
      _ = g * n' * y := e
      _ = g * (n' * y) := by grind
  obtain ⟨c1, c2⟩ := coprime_unique hv.1 h4 hv.2.2.2.2 h5 e'
  rw [← c1, ← c2]
  exact hv
theorem j0_red {k : Nat} {n d : Int} (hd : 1 ≤ d) (hn1 : -4611686018427387904 ≤ n) (hn2 : n ≤ 4611686018427387904) (hd2 : d ≤ 4611686018427387904) (hk : 4611686018427387909 < k) :
    ∃ r1 r2 r3, fraction_reduced.j0 k n d = some (r1, r2, r3) ∧ Red n d r1 r2 r3 := by
  obtain ⟨k, rfl⟩ : ∃ m, k = m + 1 := ⟨k - 1, by omega⟩
  simp only [fraction_reduced.j0]
  rw [abs_f (by omega) (by omega)]
  simp only [Option.bind_some]
  rw [divisor_int (by omega) (by omega) (by omega)]
  simp only [Option.bind_some, Int.natAbs_natCast]
  generalize hg : ((Nat.gcd n.natAbs d.natAbs : Nat) : Int) = g
  obtain ⟨h1, _, _, _, _, h6, h7⟩ := red_pos hd hg.symm
  obtain ⟨a, b⟩ := red_of hd hg.symm
  rw [if_neg (by omega), w64 (x := Int.tdiv n g) (by omega) (by omega), w64 (x := Int.tdiv d g) (by omega) (by omega), valid_f (by omega)]
  simp only [Option.bind_some, decide_eq_true_eq]
  by_cases h : V (Int.tdiv n g) (Int.tdiv d g)
  · rw [if_pos h]; exact ⟨_, _, _, rfl, a h⟩
  · rw [if_neg h]; exact ⟨_, _, _, rfl, b h⟩
theorem Red.neg {n d r1 r2 r3 : Int} (h : Red (-n) (-d) r1 r2 r3) : Red n d r1 r2 r3 := by
  rcases h with ⟨h1, h2, h3⟩ | ⟨h1, h2, h3, h4⟩
  · exact .inl ⟨h1, h2, by grind⟩
  · exact .inr ⟨h1, h2, h3, fun x y hv e => h4 x y hv (by grind)⟩
theorem reduced_red {k : Nat} {n d : Int} (hd : d ≠ 0) (hn1 : -4611686018427387904 ≤ n) (hn2 : n ≤ 4611686018427387904) (hd1 : -4611686018427387904 ≤ d) (hd2 : d ≤ 4611686018427387904) (hk : 4611686018427387909 < k) :
    ∃ r1 r2 r3, fraction_reduced.f k n d = some (r1, r2, r3) ∧ Red n d r1 r2 r3 := by
  unfold fraction_reduced.f
  by_cases h : d < 0
  · rw [if_pos h, w64 (by omega) (by omega), w64 (by omega) (by omega)]
    obtain ⟨r1, r2, r3, e, hr⟩ := j0_red (k := k) (n := -n) (d := -d) (by omega) (by omega) (by omega) (by omega) hk
    exact ⟨r1, r2, r3, e, hr.neg⟩
  · rw [if_neg h]
    exact j0_red (by omega) hn1 hn2 hd2 hk
/-- what an operation returns: the error 1 where an argument is not valid, else the value in lowest terms (with denominator 0: the error 2) -/
def OpR (a b c d n m r1 r2 r3 : Int) : Prop := (¬ (V a b ∧ V c d) ∧ r1 = 0 ∧ r2 = 0 ∧ r3 = 1) ∨ (V a b ∧ V c d ∧ m = 0 ∧ r1 = 0 ∧ r2 = 0 ∧ r3 = 2) ∨ (V a b ∧ V c d ∧ m ≠ 0 ∧ Red n m r1 r2 r3)
theorem OpR.unique {a b c d n m r1 r2 r3 s1 s2 s3 : Int} (h : OpR a b c d n m r1 r2 r3) (g : OpR a b c d n m s1 s2 s3) : r1 = s1 ∧ r2 = s2 ∧ r3 = s3 := by
  rcases h with ⟨h1, h2, h3, h4⟩ | ⟨h1, h2, h3, h4⟩ | ⟨h1, h2, h3, h4⟩ <;> rcases g with ⟨g1, g2, g3, g4⟩ | ⟨g1, g2, g3, g4⟩ | ⟨g1, g2, g3, g4⟩
  · omega
  · exact absurd ⟨g1, g2⟩ h1
  · exact absurd ⟨g1, g2⟩ h1
  · exact absurd ⟨h1, h2⟩ g1
  · omega
  · exact absurd h3 g3
  · exact absurd ⟨h1, h2⟩ g1
  · exact absurd g3 h3
  · exact Red.unique h3 h4 g4
theorem prod_bound {x y X Y : Int} (hx : -X ≤ x) (hx2 : x ≤ X) (hy : -Y ≤ y) (hy2 : y ≤ Y) : -(X * Y) ≤ x * y ∧ x * y ≤ X * Y := by
  have h1 : (X - x) * (Y - y) ≥ 0 := Int.mul_nonneg (by omega) (by omega)
  have h2 : (X + x) * (Y + y) ≥ 0 := Int.mul_nonneg (by omega) (by omega)
  have h3 : (X - x) * (Y + y) ≥ 0 := Int.mul_nonneg (by omega) (by omega)
  have h4 : (X + x) * (Y - y) ≥ 0 := Int.mul_nonneg (by omega) (by omega)
  constructor <;> grind
end Go.Proofs.YtkfibjmjamdigaaDoor.Q
/- Div of fractions: what the Go function returns. -/
namespace Go.Proofs.YtkfibjmjamdigaaDoor.Q
open Go.RowKit Go.Proofs.YtkfibjmjamdigaaDoorW.PrintWords Go.Proofs.YtkfibjmjamdigaaDoorW.PrintLast Go.Proofs.YtkfibjmjamdigaaDoorW.PrintMore
set_option linter.unusedVariables false
set_option linter.unusedSimpArgs false
set_option maxRecDepth 100000 in
set_option maxHeartbeats 1000000 in
theorem lit_Div (a b c d : Int) (w : World) :
    Calls Tryd.prog 55 #[.agg #[.int .i64 a, .int .i64 b], .agg #[.int .i64 c, .int .i64 d]] w fun e w' => e = .returned (.tuple #[.int .i64 (wrap64 (a * d)), .int .i64 (wrap64 (b * c))]) ∧ Below w.heap.size w w' := by
  go_enter Tryd.func55, Tryd.ntmps55
  go_wp2_with fail
  go_quiet (fail)
  go_wp2
  go_ret2
  exact ⟨rfl, _root_.Go.below_drewN (((Below.refl _ _).alloc (Nat.le_refl _) _).alloc (by simp) _) _⟩
set_option maxRecDepth 100000 in
set_option maxHeartbeats 1000000 in
theorem op_Div_c (k qb : Nat) (a b c d x y : Int) (w : World) (hv : fraction_Valid.f k a b = some true) (hv2 : fraction_Valid.f k c d = some true) (hy : (y == 0) = true) (hG : ∀ W : World, Calls Tryd.prog 55 #[.agg #[.int .i64 a, .int .i64 b], .agg #[.int .i64 c, .int .i64 d]] W fun e W' => e = .returned (.tuple #[.int .i64 x, .int .i64 y]) ∧ Below W.heap.size W W') (hq : w.cell? ⟨qb, 0, none⟩ = some (.func (.func 55) #[] #[])) (hl : qb < w.heap.size) :
    Calls Tryd.prog 65 #[.agg #[.int .i64 a, .int .i64 b], .agg #[.int .i64 c, .int .i64 d], .pointer (some ⟨qb, 0, none⟩)] w fun e w' => e = .returned (.tuple #[.agg #[.int .i64 0, .int .i64 0], .int .i64 2]) ∧ Below w.heap.size w w' := by
  go_enter Tryd.func65, Tryd.ntmps65
  go_wp2_with fail
  refine (fraction_Valid.calls k _ _ _ _ hv).mono ?_
  rintro e w1 ⟨rfl, hb⟩
  obtain ⟨hc, hf⟩ := bcell hb
  have hz : w.heap.size + 1 + 1 < w1.heap.size := by have := hb.size; simp at this; omega
  have hq2 := (((((Below.refl _ _).alloc (Nat.le_refl _) _).alloc (by simp) _).alloc (by simp; omega) _).trans (hb.mono (by simp; omega)) : Below w.heap.size w w1).cell (p := ⟨qb, 0, none⟩) hl
  rw [hq] at hq2
  go_wp2_with fail
  refine (fraction_Valid.calls k _ _ _ _ hv2).mono ?_
  rintro e w2 ⟨rfl, hb2⟩
  replace hb := hb.trans (hb2.mono hb.size)
  clear hb2 hc hf hz hq2
  obtain ⟨hc, hf⟩ := bcell hb
  have hz : w.heap.size + 1 + 1 < w2.heap.size := by have := hb.size; simp at this; omega
  have hq2 := (((((Below.refl _ _).alloc (Nat.le_refl _) _).alloc (by simp) _).alloc (by simp; omega) _).trans (hb.mono (by simp; omega)) : Below w.heap.size w w2).cell (p := ⟨qb, 0, none⟩) hl
  rw [hq] at hq2
  go_wp2_with fail
  refine (hG _).mono ?_
  rintro e w2 ⟨rfl, hb2⟩
  replace hb := hb.trans (hb2.mono hb.size)
  clear hb2 hc hf hz hq2
  obtain ⟨hc, hf⟩ := bcell hb
  have hz : w.heap.size + 1 + 1 < w2.heap.size := by have := hb.size; simp at this; omega
  have hq2 := (((((Below.refl _ _).alloc (Nat.le_refl _) _).alloc (by simp) _).alloc (by simp; omega) _).trans (hb.mono (by simp; omega)) : Below w.heap.size w w2).cell (p := ⟨qb, 0, none⟩) hl
  rw [hq] at hq2
  go_wp2_with fail
  refine bodyPost_ret (v := .tuple #[.agg #[.int .i64 0, .int .i64 0], .int .i64 2]) (by simp [results, Tryd.results65, go_sem, hc, hz]) rfl ⟨rfl, ?_⟩
  exact (((((((Below.refl _ _).alloc (Nat.le_refl _) _).alloc (by simp) _).alloc (by simp; omega) _).trans (hb.mono (by simp; omega))).setCell (by simp; omega) _).setCell (by simp; omega) _)
set_option maxRecDepth 100000 in
set_option maxHeartbeats 1000000 in
theorem op_Div_d (k qb : Nat) (a b c d x y r1 r2 r3 : Int) (w : World) (hv : fraction_Valid.f k a b = some true) (hv2 : fraction_Valid.f k c d = some true) (hy : (y == 0) = false) (hr : fraction_reduced.f k x y = some (r1, r2, r3)) (hG : ∀ W : World, Calls Tryd.prog 55 #[.agg #[.int .i64 a, .int .i64 b], .agg #[.int .i64 c, .int .i64 d]] W fun e W' => e = .returned (.tuple #[.int .i64 x, .int .i64 y]) ∧ Below W.heap.size W W') (hq : w.cell? ⟨qb, 0, none⟩ = some (.func (.func 55) #[] #[])) (hl : qb < w.heap.size) :
    Calls Tryd.prog 65 #[.agg #[.int .i64 a, .int .i64 b], .agg #[.int .i64 c, .int .i64 d], .pointer (some ⟨qb, 0, none⟩)] w fun e w' => e = .returned (.tuple #[.agg #[.int .i64 r1, .int .i64 r2], .int .i64 r3]) ∧ Below w.heap.size w w' := by
  go_enter Tryd.func65, Tryd.ntmps65
  go_wp2_with fail
  refine (fraction_Valid.calls k _ _ _ _ hv).mono ?_
  rintro e w1 ⟨rfl, hb⟩
  obtain ⟨hc, hf⟩ := bcell hb
  have hz : w.heap.size + 1 + 1 < w1.heap.size := by have := hb.size; simp at this; omega
  have hq2 := (((((Below.refl _ _).alloc (Nat.le_refl _) _).alloc (by simp) _).alloc (by simp; omega) _).trans (hb.mono (by simp; omega)) : Below w.heap.size w w1).cell (p := ⟨qb, 0, none⟩) hl
  rw [hq] at hq2
  go_wp2_with fail
  refine (fraction_Valid.calls k _ _ _ _ hv2).mono ?_
  rintro e w2 ⟨rfl, hb2⟩
  replace hb := hb.trans (hb2.mono hb.size)
  clear hb2 hc hf hz hq2
  obtain ⟨hc, hf⟩ := bcell hb
  have hz : w.heap.size + 1 + 1 < w2.heap.size := by have := hb.size; simp at this; omega
  have hq2 := (((((Below.refl _ _).alloc (Nat.le_refl _) _).alloc (by simp) _).alloc (by simp; omega) _).trans (hb.mono (by simp; omega)) : Below w.heap.size w w2).cell (p := ⟨qb, 0, none⟩) hl
  rw [hq] at hq2
  go_wp2_with fail
  refine (hG _).mono ?_
  rintro e w2 ⟨rfl, hb2⟩
  replace hb := hb.trans (hb2.mono hb.size)
  clear hb2 hc hf hz hq2
  obtain ⟨hc, hf⟩ := bcell hb
  have hz : w.heap.size + 1 + 1 < w2.heap.size := by have := hb.size; simp at this; omega
  have hq2 := (((((Below.refl _ _).alloc (Nat.le_refl _) _).alloc (by simp) _).alloc (by simp; omega) _).trans (hb.mono (by simp; omega)) : Below w.heap.size w w2).cell (p := ⟨qb, 0, none⟩) hl
  rw [hq] at hq2
  go_wp2_with fail
  refine (fraction_reduced.calls k _ _ _ _ _ _ hr).mono ?_
  rintro e w2 ⟨rfl, hb2⟩
  replace hb := hb.trans (hb2.mono hb.size)
  clear hb2 hc hf hz hq2
  obtain ⟨hc, hf⟩ := bcell hb
  have hz : w.heap.size + 1 + 1 < w2.heap.size := by have := hb.size; simp at this; omega
  have hq2 := (((((Below.refl _ _).alloc (Nat.le_refl _) _).alloc (by simp) _).alloc (by simp; omega) _).trans (hb.mono (by simp; omega)) : Below w.heap.size w w2).cell (p := ⟨qb, 0, none⟩) hl
  rw [hq] at hq2
  go_wp2_with fail
  refine bodyPost_ret (v := .tuple #[.agg #[.int .i64 r1, .int .i64 r2], .int .i64 r3]) (by simp [results, Tryd.results65, go_sem, hc, hz]) rfl ⟨rfl, ?_⟩
  exact (((((((Below.refl _ _).alloc (Nat.le_refl _) _).alloc (by simp) _).alloc (by simp; omega) _).trans (hb.mono (by simp; omega))).setCell (by simp; omega) _).setCell (by simp; omega) _)
def fraction_Div.f (k : Nat) (a b c d : Int) : Option (Int × Int × Int) := (fraction_Valid.f k a b).bind fun va => if va = true then ((fraction_Valid.f k c d).bind fun vb => if vb = true then (if wrap64 (b * c) = 0 then some (0, 0, 2) else fraction_reduced.f k (wrap64 (a * d)) (wrap64 (b * c))) else some (0, 0, 1)) else some (0, 0, 1)
set_option maxRecDepth 100000 in
set_option maxHeartbeats 4000000 in
theorem opc_Div (k qb : Nat) (a b c d r1 r2 r3 : Int) (w : World) (h : fraction_Div.f k a b c d = some (r1, r2, r3)) (hq : w.cell? ⟨qb, 0, none⟩ = some (.func (.func 55) #[] #[])) (hl : qb < w.heap.size) :
    Calls Tryd.prog 65 #[.agg #[.int .i64 a, .int .i64 b], .agg #[.int .i64 c, .int .i64 d], .pointer (some ⟨qb, 0, none⟩)] w fun e w' => e = .returned (.tuple #[.agg #[.int .i64 r1, .int .i64 r2], .int .i64 r3]) ∧ Below w.heap.size w w' := by
  unfold fraction_Div.f at h
  obtain ⟨va, hv, h⟩ := Option.bind_eq_some_iff.mp h
  cases va with
  | false =>
    simp only [Bool.false_eq_true, if_false, Option.some.injEq, Prod.mk.injEq] at h
    obtain ⟨rfl, rfl, rfl⟩ := h
    exact op1_a k _ a b c d w hv
  | true =>
    rw [if_pos rfl] at h
    obtain ⟨vb, hv2, h⟩ := Option.bind_eq_some_iff.mp h
    cases vb with
    | false =>
      simp only [Bool.false_eq_true, if_false, Option.some.injEq, Prod.mk.injEq] at h
      obtain ⟨rfl, rfl, rfl⟩ := h
      exact op1_b k _ a b c d w hv hv2
    | true =>
      rw [if_pos rfl] at h
      by_cases hy : wrap64 (b * c) = 0
      · rw [if_pos hy] at h
        simp only [Option.some.injEq, Prod.mk.injEq] at h
        obtain ⟨rfl, rfl, rfl⟩ := h
        exact op_Div_c k qb a b c d _ _ w hv hv2 (by simpa using hy) (fun W => lit_Div a b c d W) hq hl
      · rw [if_neg hy] at h
        exact op_Div_d k qb a b c d _ _ _ _ _ w hv hv2 (by simpa using hy) h (fun W => lit_Div a b c d W) hq hl
set_option maxRecDepth 100000 in
set_option maxHeartbeats 4000000 in
theorem fraction_Div.calls (k : Nat) (a b c d r1 r2 r3 : Int) (w : World) (h : fraction_Div.f k a b c d = some (r1, r2, r3)) :
    Calls Tryd.prog 24 #[.agg #[.int .i64 a, .int .i64 b], .agg #[.int .i64 c, .int .i64 d]] w fun e w' => e = .returned (.tuple #[.agg #[.int .i64 r1, .int .i64 r2], .int .i64 r3]) ∧ Below w.heap.size w w' := by
  go_enter Tryd.func24, Tryd.ntmps24
  go_wp2_with fail
  go_region_held3 (fun w' => w'.cell? ⟨w.heap.size, 0, none⟩ = some (.int .i64 a) ∧ w'.cell? ⟨w.heap.size, 1, none⟩ = some (.int .i64 b) ∧ w'.cell? ⟨w.heap.size + 1, 0, none⟩ = some (.int .i64 c) ∧ w'.cell? ⟨w.heap.size + 1, 1, none⟩ = some (.int .i64 d) ∧ RR w w')
    (first | exact start4 a b c d w _ _ | exact keepA _ (start4 a b c d w _ _) | exact keepB hb (keepA _ (start4 a b c d w _ _)) | exact keepSet 1 _ (by decide) (keepSet 0 _ (by decide) (keepB hb (keepA _ (start4 a b c d w _ _)))))
    (first | (go_at_call 51; refine (operation.calls _ _).mono ?_; rintro e w' ⟨rfl, rfl⟩) | (go_at_call 65; refine (opc_Div k _ a b c d _ _ _ _ h ?hq ?hl).mono ?_; (case hq => simp [go_sem]); (case hl => simp [go_sem]); rintro e w' ⟨rfl, hb⟩; have hS := (keepB hb (keepA _ (start4 a b c d w _ _))).2.2.2.2; obtain ⟨hB', v0, v1, hv⟩ := hS; have c0 := blk_cell hv 0; have c1 := blk_cell hv 1; have f0 := blk_frozen hv 0; have f1 := blk_frozen hv 1; clear hB' hv))
  obtain ⟨_, _, _, _, hE, _⟩ := ‹_ ∧ _ ∧ _ ∧ _ ∧ RR w _›
  go_wp2
  refine bodyPost_ret (v := .tuple #[.agg #[.int .i64 r1, .int .i64 r2], .int .i64 r3]) (by simp [results, Tryd.results24, go_sem, c0, c1]) rfl ⟨rfl, hE⟩
theorem fraction_Div.mono : ∀ a b c d k, LeO (fraction_Div.f k a b c d) (fraction_Div.f (k + 1) a b c d) := by
  intro a b c d k
  unfold fraction_Div.f
  repeat' first
      | (with_reducible exact fraction_Valid.mono _ _ _)
      | (with_reducible exact fraction_reduced.mono _ _ _)
      | (with_reducible exact LeO.refl _)
      | (with_reducible refine LeO.ite ?_ ?_)
      | (with_reducible refine LeO.bind ?_ (fun _ => ?_))
end Go.Proofs.YtkfibjmjamdigaaDoor.Q
/- What the four operations return: OpR. -/
namespace Go.Proofs.YtkfibjmjamdigaaDoor.Q
set_option linter.unusedVariables false
open Go.RowKit Go.Proofs.YtkfibjmjamdigaaDoorW.PrintWords Go.Proofs.YtkfibjmjamdigaaDoorW.PrintLast Go.Proofs.YtkfibjmjamdigaaDoorW.PrintMore
theorem opAdd_f {k : Nat} (hk : 4611686018427387909 < k) (a b c d : Int) : ∃ r1 r2 r3, fraction_Add.f k a b c d = some (r1, r2, r3) ∧ OpR a b c d (a * d + c * b) (b * d) r1 r2 r3 := by
  unfold fraction_Add.f
  rw [valid_f (by omega), valid_f (by omega)]
  simp only [Option.bind_some, decide_eq_true_eq]
  by_cases h : V a b
  · by_cases g : V c d
    · rw [if_pos h, if_pos g]
      have h' := h
      have g' := g
      obtain ⟨h1, h2, h3, h4, _⟩ := h
      obtain ⟨g1, g2, g3, g4, _⟩ := g
      have p1 := prod_bound (x := a) (y := d) (X := 1000000000) (Y := 1000000) (by omega) (by omega) (by omega) (by omega)
      have p2 := prod_bound (x := c) (y := b) (X := 1000000000) (Y := 1000000) (by omega) (by omega) (by omega) (by omega)
      have p3 := prod_bound (x := b) (y := d) (X := 1000000) (Y := 1000000) (by omega) (by omega) (by omega) (by omega)
      have p4 := prod_bound (x := a) (y := c) (X := 1000000000) (Y := 1000000000) (by omega) (by omega) (by omega) (by omega)
      have p5 := prod_bound (x := b) (y := c) (X := 1000000) (Y := 1000000000) (by omega) (by omega) (by omega) (by omega)
      rw [w64 (x := a * d) (by omega) (by omega), w64 (x := c * b) (by omega) (by omega), w64 (x := a * d + c * b) (by omega) (by omega), w64 (x := b * d) (by omega) (by omega)]
      by_cases hm : b * d = 0
      · rw [if_pos hm]
        exact ⟨_, _, _, rfl, .inr (.inl ⟨h', g', hm, rfl, rfl, rfl⟩)⟩
      · rw [if_neg hm]
        obtain ⟨r1, r2, r3, e, hr⟩ := reduced_red (k := k) (n := a * d + c * b) (d := b * d) hm (by omega) (by omega) (by omega) (by omega) hk
        exact ⟨r1, r2, r3, e, .inr (.inr ⟨h', g', hm, hr⟩)⟩
    · rw [if_pos h, if_neg g]
      exact ⟨_, _, _, rfl, .inl ⟨fun x => g x.2, rfl, rfl, rfl⟩⟩
  · rw [if_neg h]
    exact ⟨_, _, _, rfl, .inl ⟨fun x => h x.1, rfl, rfl, rfl⟩⟩
theorem opSub_f {k : Nat} (hk : 4611686018427387909 < k) (a b c d : Int) : ∃ r1 r2 r3, fraction_Sub.f k a b c d = some (r1, r2, r3) ∧ OpR a b c d (a * d - c * b) (b * d) r1 r2 r3 := by
  unfold fraction_Sub.f
  rw [valid_f (by omega), valid_f (by omega)]
  simp only [Option.bind_some, decide_eq_true_eq]
  by_cases h : V a b
  · by_cases g : V c d
    · rw [if_pos h, if_pos g]
      have h' := h
      have g' := g
      obtain ⟨h1, h2, h3, h4, _⟩ := h
      obtain ⟨g1, g2, g3, g4, _⟩ := g
      have p1 := prod_bound (x := a) (y := d) (X := 1000000000) (Y := 1000000) (by omega) (by omega) (by omega) (by omega)
      have p2 := prod_bound (x := c) (y := b) (X := 1000000000) (Y := 1000000) (by omega) (by omega) (by omega) (by omega)
      have p3 := prod_bound (x := b) (y := d) (X := 1000000) (Y := 1000000) (by omega) (by omega) (by omega) (by omega)
      have p4 := prod_bound (x := a) (y := c) (X := 1000000000) (Y := 1000000000) (by omega) (by omega) (by omega) (by omega)
      have p5 := prod_bound (x := b) (y := c) (X := 1000000) (Y := 1000000000) (by omega) (by omega) (by omega) (by omega)
      rw [w64 (x := a * d) (by omega) (by omega), w64 (x := c * b) (by omega) (by omega), w64 (x := a * d - c * b) (by omega) (by omega), w64 (x := b * d) (by omega) (by omega)]
      by_cases hm : b * d = 0
      · rw [if_pos hm]
        exact ⟨_, _, _, rfl, .inr (.inl ⟨h', g', hm, rfl, rfl, rfl⟩)⟩
      · rw [if_neg hm]
        obtain ⟨r1, r2, r3, e, hr⟩ := reduced_red (k := k) (n := a * d - c * b) (d := b * d) hm (by omega) (by omega) (by omega) (by omega) hk
        exact ⟨r1, r2, r3, e, .inr (.inr ⟨h', g', hm, hr⟩)⟩
    · rw [if_pos h, if_neg g]
      exact ⟨_, _, _, rfl, .inl ⟨fun x => g x.2, rfl, rfl, rfl⟩⟩
  · rw [if_neg h]
    exact ⟨_, _, _, rfl, .inl ⟨fun x => h x.1, rfl, rfl, rfl⟩⟩
theorem opMul_f {k : Nat} (hk : 4611686018427387909 < k) (a b c d : Int) : ∃ r1 r2 r3, fraction_Mul.f k a b c d = some (r1, r2, r3) ∧ OpR a b c d (a * c) (b * d) r1 r2 r3 := by
  unfold fraction_Mul.f
  rw [valid_f (by omega), valid_f (by omega)]
  simp only [Option.bind_some, decide_eq_true_eq]
  by_cases h : V a b
  · by_cases g : V c d
    · rw [if_pos h, if_pos g]
      have h' := h
      have g' := g
      obtain ⟨h1, h2, h3, h4, _⟩ := h
      obtain ⟨g1, g2, g3, g4, _⟩ := g
      have p1 := prod_bound (x := a) (y := d) (X := 1000000000) (Y := 1000000) (by omega) (by omega) (by omega) (by omega)
      have p2 := prod_bound (x := c) (y := b) (X := 1000000000) (Y := 1000000) (by omega) (by omega) (by omega) (by omega)
      have p3 := prod_bound (x := b) (y := d) (X := 1000000) (Y := 1000000) (by omega) (by omega) (by omega) (by omega)
      have p4 := prod_bound (x := a) (y := c) (X := 1000000000) (Y := 1000000000) (by omega) (by omega) (by omega) (by omega)
      have p5 := prod_bound (x := b) (y := c) (X := 1000000) (Y := 1000000000) (by omega) (by omega) (by omega) (by omega)
      rw [w64 (x := a * c) (by omega) (by omega), w64 (x := b * d) (by omega) (by omega)]
      by_cases hm : b * d = 0
      · rw [if_pos hm]
        exact ⟨_, _, _, rfl, .inr (.inl ⟨h', g', hm, rfl, rfl, rfl⟩)⟩
      · rw [if_neg hm]
        obtain ⟨r1, r2, r3, e, hr⟩ := reduced_red (k := k) (n := a * c) (d := b * d) hm (by omega) (by omega) (by omega) (by omega) hk
        exact ⟨r1, r2, r3, e, .inr (.inr ⟨h', g', hm, hr⟩)⟩
    · rw [if_pos h, if_neg g]
      exact ⟨_, _, _, rfl, .inl ⟨fun x => g x.2, rfl, rfl, rfl⟩⟩
  · rw [if_neg h]
    exact ⟨_, _, _, rfl, .inl ⟨fun x => h x.1, rfl, rfl, rfl⟩⟩
theorem opDiv_f {k : Nat} (hk : 4611686018427387909 < k) (a b c d : Int) : ∃ r1 r2 r3, fraction_Div.f k a b c d = some (r1, r2, r3) ∧ OpR a b c d (a * d) (b * c) r1 r2 r3 := by
  unfold fraction_Div.f
  rw [valid_f (by omega), valid_f (by omega)]
  simp only [Option.bind_some, decide_eq_true_eq]
  by_cases h : V a b
  · by_cases g : V c d
    · rw [if_pos h, if_pos g]
      have h' := h
      have g' := g
      obtain ⟨h1, h2, h3, h4, _⟩ := h
      obtain ⟨g1, g2, g3, g4, _⟩ := g
      have p1 := prod_bound (x := a) (y := d) (X := 1000000000) (Y := 1000000) (by omega) (by omega) (by omega) (by omega)
      have p2 := prod_bound (x := c) (y := b) (X := 1000000000) (Y := 1000000) (by omega) (by omega) (by omega) (by omega)
      have p3 := prod_bound (x := b) (y := d) (X := 1000000) (Y := 1000000) (by omega) (by omega) (by omega) (by omega)
      have p4 := prod_bound (x := a) (y := c) (X := 1000000000) (Y := 1000000000) (by omega) (by omega) (by omega) (by omega)
      have p5 := prod_bound (x := b) (y := c) (X := 1000000) (Y := 1000000000) (by omega) (by omega) (by omega) (by omega)
      rw [w64 (x := a * d) (by omega) (by omega), w64 (x := b * c) (by omega) (by omega)]
      by_cases hm : b * c = 0
      · rw [if_pos hm]
        exact ⟨_, _, _, rfl, .inr (.inl ⟨h', g', hm, rfl, rfl, rfl⟩)⟩
      · rw [if_neg hm]
        obtain ⟨r1, r2, r3, e, hr⟩ := reduced_red (k := k) (n := a * d) (d := b * c) hm (by omega) (by omega) (by omega) (by omega) hk
        exact ⟨r1, r2, r3, e, .inr (.inr ⟨h', g', hm, hr⟩)⟩
    · rw [if_pos h, if_neg g]
      exact ⟨_, _, _, rfl, .inl ⟨fun x => g x.2, rfl, rfl, rfl⟩⟩
  · rw [if_neg h]
    exact ⟨_, _, _, rfl, .inl ⟨fun x => h x.1, rfl, rfl, rfl⟩⟩
end Go.Proofs.YtkfibjmjamdigaaDoor.Q
/- FractionOrder, about numbers alone. -/
namespace Go.Proofs.YtkfibjmjamdigaaDoor.Q
set_option linter.unusedVariables false
open Go.RowKit Go.Proofs.YtkfibjmjamdigaaDoorW.PrintWords Go.Proofs.YtkfibjmjamdigaaDoorW.PrintLast Go.Proofs.YtkfibjmjamdigaaDoorW.PrintMore
/-- the sign of a difference -/
def cs (x y : Int) : Int := if x < y then -1 else if x > y then 1 else 0
theorem cs_le (x y : Int) : cs x y ≤ 0 ↔ x ≤ y := by unfold cs; split <;> (try split) <;> omega
theorem cs_pos (x y : Int) : 0 < cs x y ↔ y < x := by unfold cs; split <;> (try split) <;> omega
theorem cs_zero (x y : Int) : cs x y = 0 ↔ x = y := by unfold cs; split <;> (try split) <;> omega
theorem cs_swap (x y : Int) : cs y x = -cs x y := by unfold cs; split <;> (try split) <;> (try split) <;> omega
theorem cs_bound (x y : Int) : -1 ≤ cs x y ∧ cs x y ≤ 1 := by unfold cs; split <;> (try split) <;> omega
theorem compare_cs {k : Nat} (hk : 1000000 < k) (a b c d : Int) : fraction_Compare.f k a b c d = some (if V a b ∧ V c d then cs (a * d) (c * b) else 0, decide (V a b ∧ V c d)) := by
  have v1 := valid_f (k := k) (by omega) a b
  have v2 := valid_f (k := k) (by omega) c d
  by_cases h : V a b
  · by_cases h2 : V c d
    · have e1 : wrap64 (a * d) = a * d := by
        obtain ⟨h1, h2', h3, h4, _⟩ := h
        obtain ⟨g1, g2, g3, g4, _⟩ := h2
        have := prod_bound (x := a) (y := d) (X := 1000000000) (Y := 1000000) (by omega) (by omega) (by omega) (by omega)
        exact w64 (by omega) (by omega)
      have e2 : wrap64 (c * b) = c * b := by
        obtain ⟨h1, h2', h3, h4, _⟩ := h
        obtain ⟨g1, g2, g3, g4, _⟩ := h2
        have := prod_bound (x := c) (y := b) (X := 1000000000) (Y := 1000000) (by omega) (by omega) (by omega) (by omega)
        exact w64 (by omega) (by omega)
      rw [decide_eq_true h] at v1
      rw [decide_eq_true h2] at v2
      rw [fraction_Compare.f, v1, Option.bind_some, if_pos rfl, v2, Option.bind_some, if_pos rfl, e1, e2, cmp_f, Option.bind_some, if_pos (And.intro h h2), decide_eq_true (And.intro h h2)]
      rfl
    · rw [decide_eq_true h] at v1
      rw [decide_eq_false h2] at v2
      rw [fraction_Compare.f, v1, Option.bind_some, if_pos rfl, v2, Option.bind_some, if_neg (by decide), if_neg (fun x => h2 x.2), decide_eq_false (fun x => h2 x.2)]
  · rw [decide_eq_false h] at v1
    rw [fraction_Compare.f, v1, Option.bind_some, if_neg (by decide), if_neg (fun x => h x.1), decide_eq_false (fun x => h x.1)]
theorem cs_scale {u v m s t l : Int} (hm : 0 < m) (hl : 0 < l) (h : (u - v) * m = (s - t) * l) : cs u v = cs s t := by
  have key : ∀ {x y a b : Int}, 0 < a → 0 < b → x * a = y * b → (0 < x → 0 < y) ∧ (x < 0 → y < 0) := by
    intro x y a b ha hb e
    constructor
    · intro hx
      have h1 := Int.mul_pos hx ha
      rw [e] at h1
      exact Int.pos_of_mul_pos_left h1 (by omega)
    · intro hx
      have h1 := Int.mul_pos (show 0 < -x by omega) ha
      rw [Int.neg_mul, e, ← Int.neg_mul] at h1
      have := Int.pos_of_mul_pos_left h1 (by omega)
      omega
  obtain ⟨a1, a2⟩ := key hm hl h
  obtain ⟨b1, b2⟩ := key hl hm h.symm
  unfold cs
  by_cases h1 : u < v
  · have := a2 (by omega)
    rw [if_pos h1, if_pos (by omega)]
  · by_cases h2 : u > v
    · have := a1 (by omega)
      rw [if_neg h1, if_pos h2, if_neg (by omega), if_pos (by omega)]
    · rw [if_neg h1, if_neg h2]
      by_cases h3 : s < t
      · have := b2 (by omega); omega
      · by_cases h4 : s > t
        · have := b1 (by omega); omega
        · rw [if_neg h3, if_neg h4]
theorem OpR.ok' {a b c d n m r1 r2 : Int} (h : OpR a b c d n m r1 r2 0) : V a b ∧ V c d ∧ m ≠ 0 ∧ V r1 r2 ∧ r1 * m = n * r2 := by
  rcases h with ⟨_, _, _, h⟩ | ⟨_, _, _, _, _, h⟩ | ⟨h1, h2, h3, ⟨_, h4, h5⟩ | ⟨h4, _⟩⟩
  · omega
  · omega
  · exact ⟨h1, h2, h3, h4, h5⟩
  · omega
theorem V.pos' {n d : Int} (h : V n d) : 0 < d := by have := h.1; omega
theorem order_j3 {k : Nat} (hk : 4611686018427387921 < k) {a b c d p q : Int} (va : V a b) (vc : V c d) : assessorlaw46_FractionOrder.j3 k (cs (a * d) (c * b)) false a b c d p q = some true := by
  obtain ⟨k, rfl⟩ : ∃ m, k = m + 2 := ⟨k - 2, by omega⟩
  obtain ⟨r1, r2, r3, er, hr⟩ := opMul_f (k := k + 1) (by omega) a b p q
  obtain ⟨s1, s2, s3, es, hs⟩ := opMul_f (k := k + 1) (by omega) c d p q
  have ec := compare_cs (k := k + 1) (by omega) r1 r2 s1 s2
  have j4 : ∀ x : Bool, assessorlaw46_FractionOrder.j4 (k + 1) x = some x := fun x => by rw [assessorlaw46_FractionOrder.j4]
  rw [assessorlaw46_FractionOrder.j3, if_neg (by decide), er, Option.bind_some, es, Option.bind_some, ec, Option.bind_some]
  clear er es ec
  by_cases h1 : r3 = 0
  · by_cases h2 : s3 = 0
    · by_cases h3 : p < 0
      · rw [if_pos h1, if_pos h2, if_pos h3, j4]
      · subst h1 h2
        obtain ⟨_, vp, _, vr, e1⟩ := hr.ok'
        obtain ⟨_, _, _, vs, e2⟩ := hs.ok'
        rw [if_pos rfl, if_pos rfl, if_neg h3, if_pos (decide_eq_true (And.intro vr vs)), if_pos (And.intro vr vs)]
        by_cases h4 : cs (a * d) (c * b) > 0
        · rw [if_pos h4, j4]
        · rw [if_neg h4, j4]
          congr 1
          rw [decide_eq_true_iff, cs_le]
          have h5 : a * d ≤ c * b := by rw [← cs_le]; omega
          have b1 := va.pos'
          have d1 := vc.pos'
          have q1 := vp.pos'
          have r1' := vr.pos'
          have s1' := vs.pos'
          have hm : 0 < b * q * d := Int.mul_pos (Int.mul_pos b1 q1) d1
          refine Int.le_of_mul_le_mul_right ?_ hm
          have f1 : r1 * s2 * (b * q * d) = a * d * (p * r2 * s2) := by
            calc r1 * s2 * (b * q * d) = r1 * (b * q) * (s2 * d) := by grind
              _ = a * p * r2 * (s2 * d) := by rw [e1]
              _ = a * d * (p * r2 * s2) := by grind
          have f2 : s1 * r2 * (b * q * d) = c * b * (p * r2 * s2) := by
            calc s1 * r2 * (b * q * d) = s1 * (d * q) * (r2 * b) := by grind
              _ = c * p * s2 * (r2 * b) := by rw [e2]
              _ = c * b * (p * r2 * s2) := by grind
          rw [f1, f2]
          exact Int.mul_le_mul_of_nonneg_right h5 (Int.mul_nonneg (Int.mul_nonneg (by omega) (by omega)) (by omega))
    · rw [if_pos h1, if_neg h2, j4]
  · rw [if_neg h1, j4]
theorem order_j2 {k : Nat} (hk : 4611686018427387925 < k) {a b c d p q : Int} (va : V a b) (vc : V c d) : assessorlaw46_FractionOrder.j2 k (cs (a * d) (c * b)) false a b c d p q = some true := by
  obtain ⟨k, rfl⟩ : ∃ m, k = m + 1 := ⟨k - 1, by omega⟩
  obtain ⟨r1, r2, r3, er, hr⟩ := opAdd_f (k := k) (by omega) a b p q
  obtain ⟨s1, s2, s3, es, hs⟩ := opAdd_f (k := k) (by omega) c d p q
  have ec := compare_cs (k := k) (by omega) r1 r2 s1 s2
  have j3 := order_j3 (k := k) (by omega) (p := p) (q := q) va vc
  rw [assessorlaw46_FractionOrder.j2, if_neg (by decide), er, Option.bind_some, es, Option.bind_some, ec, Option.bind_some]
  clear er es ec
  by_cases h1 : r3 = 0
  · by_cases h2 : s3 = 0
    · subst h1 h2
      obtain ⟨_, vp, _, vr, e1⟩ := hr.ok'
      obtain ⟨_, _, _, vs, e2⟩ := hs.ok'
      have e : cs (r1 * s2) (s1 * r2) = cs (a * d) (c * b) := by
        have b1 := va.pos'
        have d1 := vc.pos'
        have q1 := vp.pos'
        have r1' := vr.pos'
        have s1' := vs.pos'
        refine cs_scale (m := b * q * (d * q)) (l := r2 * s2 * (q * q)) (Int.mul_pos (Int.mul_pos b1 q1) (Int.mul_pos d1 q1)) (Int.mul_pos (Int.mul_pos r1' s1') (Int.mul_pos q1 q1)) ?_
        calc (r1 * s2 - s1 * r2) * (b * q * (d * q)) = r1 * (b * q) * (s2 * (d * q)) - s1 * (d * q) * (r2 * (b * q)) := by grind
          _ = (a * q + p * b) * r2 * (s2 * (d * q)) - (c * q + p * d) * s2 * (r2 * (b * q)) := by rw [e1, e2]
          _ = (a * d - c * b) * (r2 * s2 * (q * q)) := by grind
      rw [if_pos rfl, if_pos rfl, if_pos (decide_eq_true (And.intro vr vs)), if_pos (And.intro vr vs), e, bne_self_eq_false]
      exact j3
    · rw [if_pos h1, if_neg h2]; exact j3
  · rw [if_neg h1]; exact j3
theorem order_j1 {k : Nat} (hk : 4611686018427387927 < k) {a b c d p q : Int} (va : V a b) (vc : V c d) : assessorlaw46_FractionOrder.j1 k (cs (a * d) (c * b)) false a b c d p q = some true := by
  obtain ⟨k, rfl⟩ : ∃ m, k = m + 1 := ⟨k - 1, by omega⟩
  have c1 := compare_cs (k := k) (by omega) c d p q
  have c2 := compare_cs (k := k) (by omega) a b p q
  have j2 := order_j2 (k := k) (by omega) (p := p) (q := q) va vc
  rw [assessorlaw46_FractionOrder.j1, if_neg (by decide), c1, Option.bind_some, c2, Option.bind_some]
  clear c1 c2
  by_cases vp : V p q
  · rw [if_pos (decide_eq_true (And.intro vc vp)), if_pos (decide_eq_true (And.intro va vp)), if_pos (And.intro vc vp), if_pos (And.intro va vp)]
    by_cases h1 : cs (a * d) (c * b) ≤ 0
    · by_cases h2 : cs (c * q) (p * d) ≤ 0
      · have h3 : decide (cs (a * q) (p * b) > 0) = false := by
          rw [decide_eq_false_iff_not]
          intro h
          rw [gt_iff_lt, cs_pos] at h
          rw [cs_le] at h1 h2
          have b1 := va.pos'
          have d1 := vc.pos'
          have q1 := vp.pos'
          have f1 := Int.mul_le_mul_of_nonneg_right h1 (show 0 ≤ q by omega)
          have f2 := Int.mul_le_mul_of_nonneg_right h2 (show 0 ≤ b by omega)
          have f3 := Int.mul_lt_mul_of_pos_right h d1
          have g1 : a * d * q = a * q * d := by grind
          have g2 : c * b * q = c * q * b := by grind
          have g3 : p * d * b = p * b * d := by grind
          omega
        rw [if_pos h1, if_pos h2, h3]; exact j2
      · rw [if_pos h1, if_neg h2]; exact j2
    · rw [if_neg h1]; exact j2
  · have hf : decide (V c d ∧ V p q) = false := decide_eq_false (fun x => vp x.2)
    rw [hf, if_neg (show ¬ (false = true) by decide)]; exact j2
theorem pure_FractionOrder (a b c d p q : Int) (_ha : (Lit.int .i64 a).wf = true) (_hb : (Lit.int .i64 b).wf = true) (_hc : (Lit.int .i64 c).wf = true) (_hd : (Lit.int .i64 d).wf = true) (_hp : (Lit.int .i64 p).wf = true) (_hq : (Lit.int .i64 q).wf = true) : ∃ k, assessorlaw46_FractionOrder.f k a b c d p q = some true := by
  refine ⟨4611686018427387990, ?_⟩
  generalize hK : (4611686018427387990 : Nat) = k
  have hk : 4611686018427387950 < k := by omega
  clear hK
  have aw := awake_true (k := k) (by omega)
  have c1 := compare_cs (k := k) (by omega) a b c d
  have c2 := compare_cs (k := k) (by omega) c d a b
  have v1 := valid_f (k := k) (by omega) a b
  have v2 := valid_f (k := k) (by omega) c d
  obtain ⟨s1, s2, s3, es, hs⟩ := opSub_f (k := k - 1) (by omega) a b c d
  obtain ⟨k, rfl⟩ : ∃ m, k = m + 1 := ⟨k - 1, by omega⟩
  rw [show k + 1 - 1 = k by omega] at es
  rw [assessorlaw46_FractionOrder.f, aw, Option.bind_some, if_pos rfl, c1, Option.bind_some, c2, Option.bind_some, v1, Option.bind_some]
  clear aw c1 c2 v1
  by_cases va : V a b
  · rw [if_pos (decide_eq_true va), v2, Option.bind_some]
    by_cases vc : V c d
    · have j1 := order_j1 (k := k) (by omega) (p := p) (q := q) va vc
      have hw : wrap64 (-cs (c * b) (a * d)) = cs (a * d) (c * b) := by
        have := cs_bound (c * b) (a * d)
        rw [w64 (by omega) (by omega), cs_swap]; omega
      rw [if_pos (And.intro va vc), if_pos (And.intro vc va), decide_eq_true (And.intro va vc), decide_eq_true (And.intro vc va), decide_eq_true vc, hw, bne_self_eq_false, bne_self_eq_false, if_neg (by decide), if_neg (by decide)]
      clear hw v2
      have e0 : (cs (a * d) (c * b) == 0) = (a == c && (b == d)) := by
        rw [Bool.eq_iff_iff, beq_iff_eq, cs_zero, Bool.and_eq_true, beq_iff_eq, beq_iff_eq]
        constructor
        · intro h
          exact coprime_unique va.1 vc.1 va.2.2.2.2 vc.2.2.2.2 h
        · rintro ⟨rfl, rfl⟩; rfl
      rw [assessorlaw46_FractionOrder.j0, if_neg (by decide), if_pos rfl, e0, bne_self_eq_false, if_neg (by decide), es, Option.bind_some]
      clear es
      by_cases h0 : s3 = 0
      · subst h0
        obtain ⟨_, _, _, vs, e⟩ := hs.ok'
        have b1 := va.pos'
        have d1 := vc.pos'
        have s1' := vs.pos'
        have e2 : cs s1 0 = cs (a * d) (c * b) := cs_scale (m := b * d) (l := s2) (Int.mul_pos b1 d1) s1' (by rw [Int.sub_zero]; exact e)
        have e3 : decide (s1 > 0) = decide (cs (a * d) (c * b) > 0) := by
          rw [← e2]
          have := cs_pos s1 0
          rw [Bool.eq_iff_iff, decide_eq_true_iff, decide_eq_true_iff]
          omega
        rw [if_pos rfl, e3, bne_self_eq_false]
        exact j1
      · rw [if_neg h0]; exact j1
    · have n1 : ¬ (V a b ∧ V c d) := fun x => vc x.2
      have n2 : ¬ (V c d ∧ V a b) := fun x => vc x.1
      have hz : wrap64 (-0) = 0 := by rw [w64 (by omega) (by omega)]; rfl
      rw [if_neg n1, if_neg n2, decide_eq_false n1, decide_eq_false n2, decide_eq_false vc, hz, bne_self_eq_false, if_neg (show ¬ (false = true) by decide), bne_self_eq_false, if_neg (show ¬ (false = true) by decide), assessorlaw46_FractionOrder.j0, if_neg (show ¬ (false = true) by decide), if_neg (show ¬ (false = true) by decide)]
      rfl
  · have n1 : ¬ (V a b ∧ V c d) := fun x => va x.1
    have n2 : ¬ (V c d ∧ V a b) := fun x => va x.2
    have hz : wrap64 (-0) = 0 := by rw [w64 (by omega) (by omega)]; rfl
    rw [decide_eq_false va, if_neg (show ¬ (false = true) by decide), if_neg n1, if_neg n2, decide_eq_false n1, decide_eq_false n2, hz, bne_self_eq_false, if_neg (show ¬ (false = true) by decide), bne_self_eq_false, if_neg (show ¬ (false = true) by decide), assessorlaw46_FractionOrder.j0, if_neg (show ¬ (false = true) by decide), if_neg (show ¬ (false = true) by decide)]
    rfl
end Go.Proofs.YtkfibjmjamdigaaDoor.Q
/- Whatever the input: FractionOrder returns true, and the input reads afterwards as it read before (the row lists three tables of the library; the card ties them to the program's text). No further condition. -/
namespace Go.Proofs.YtkfibjmjamdigaaDoor.fractionOrder
open Go.ChangeShapes Go.WideShapes Go.ChangeAt Go.RowKit Go.Proofs.YtkfibjmjamdigaaDoor.Q
open Go.ChangeMaps (open_string shut_string)
open Go.Joins (open_agg2)
set_option linter.unusedVariables false
theorem cells23 : Tryd.prog.cellsOf 23 = 2 := by kernel_rfl
set_option maxRecDepth 100000 in
theorem contract (H : Type) (enc : TypeId × Value → H) (W : World) (base : Nat) (args : Array Value) (ds gs : List (DataW H)) (before : List MemPlace)
    (hval : ∀ (j : Nat) t v, Tryd.f6.params[j]? = some t → args[j]? = some v → Value.okWide Tryd.prog W .any base t v)
    (hW : DataW.Whole enc Tryd.prog Tryd.f6.params.toList Rows.fractionOrderSpec.vars false W args.toList ds gs before) (hL : laidMetH Tryd.prog Rows.fractionOrderRow.laid W) :
    Calls Tryd.prog 6 args W fun e W' => ∃ v, e = .returned v ∧ Rows.fractionOrderSpec.post enc Tryd.prog Tryd.f6 false true false false W args v W' := by
  have hW' := hW
  obtain ⟨p, q, hA0, hV, rfl, hfz, hnd⟩ := hW
  have hA : DataW.TrodAll enc Tryd.prog W 0 (fun _ => true) true Tryd.f6.params.toList args.toList ds p := hA0
  rw [Tryd.params6] at hA hval
  obtain ⟨v0, vs0, d0, ds0, p0, q0, hargs, rfl, rfl, h0, r0⟩ := trodAll_cons hA
  obtain ⟨v1, vs1, d1, ds1, p1, q1, rfl, rfl, rfl, h1, r1⟩ := trodAll_cons r0
  obtain ⟨v2, vs2, d2, ds2, p2, q2, rfl, rfl, rfl, h2, r2⟩ := trodAll_cons r1
  obtain ⟨rfl, rfl, rfl⟩ := trodAll_nil r2
  obtain rfl : args = #[v0, v1, v2] := by cases args; simp_all
  obtain ⟨rfl, rfl⟩ := trodVars_none hV
  have k0 := h0
  have lt0 : ∀ x ∈ p0, x.block < W.heap.size := by obtain ⟨m, hm⟩ := k0; exact DataW.trod_lt m _ _ _ hm
  obtain ⟨c0, e0, y0, z0, m0, rfl, hd0, hp0, hy0, hz0⟩ := open_agg2 Tryd.underlying23 (by kernel_rfl) cells23 (hval 0 23 v0 rfl rfl) h0
  obtain ⟨a0, g0, _, wa0⟩ := DataW.trod_int Tryd.underlying3 hy0
  obtain ⟨b0, l0, _, wb0⟩ := DataW.trod_int Tryd.underlying3 hz0
  simp only [List.cons.injEq, and_true] at g0 l0
  subst g0 l0
  have k1 := h1
  have lt1 : ∀ x ∈ p1, x.block < W.heap.size := by obtain ⟨m, hm⟩ := k1; exact DataW.trod_lt m _ _ _ hm
  obtain ⟨c1, e1, y1, z1, m1, rfl, hd1, hp1, hy1, hz1⟩ := open_agg2 Tryd.underlying23 (by kernel_rfl) cells23 (hval 1 23 v1 rfl rfl) h1
  obtain ⟨a1, g1, _, wa1⟩ := DataW.trod_int Tryd.underlying3 hy1
  obtain ⟨b1, l1, _, wb1⟩ := DataW.trod_int Tryd.underlying3 hz1
  simp only [List.cons.injEq, and_true] at g1 l1
  subst g1 l1
  have k2 := h2
  have lt2 : ∀ x ∈ p2, x.block < W.heap.size := by obtain ⟨m, hm⟩ := k2; exact DataW.trod_lt m _ _ _ hm
  obtain ⟨c2, e2, y2, z2, m2, rfl, hd2, hp2, hy2, hz2⟩ := open_agg2 Tryd.underlying23 (by kernel_rfl) cells23 (hval 2 23 v2 rfl rfl) h2
  obtain ⟨a2, g2, _, wa2⟩ := DataW.trod_int Tryd.underlying3 hy2
  obtain ⟨b2, l2, _, wb2⟩ := DataW.trod_int Tryd.underlying3 hz2
  simp only [List.cons.injEq, and_true] at g2 l2
  subst g2 l2
  obtain ⟨k, hk⟩ := pure_FractionOrder a0 b0 a1 b1 a2 b2 wa0 wb0 wa1 wb1 wa2 wb2
  refine (assessorlaw46_FractionOrder.calls k a0 b0 a1 b1 a2 b2 true W ⟨rfl⟩ (tab_of_laid hL) hk).mono fun e W' ⟨he, bel⟩ => ?_
  subst he
  exact ⟨_, rfl, _, _, _, [], _, [], hW', trodAll_mk1 (shut_bool Tryd.underlying4 _), (trodAll_cons_mk (Below.trod laidOut (by kernel_rfl) (of_decide_eq_true (by kernel_rfl)) k0 bel lt0) (trodAll_cons_mk (Below.trod laidOut (by kernel_rfl) (of_decide_eq_true (by kernel_rfl)) k1 bel lt1) (trodAll_cons_mk (Below.trod laidOut (by kernel_rfl) (of_decide_eq_true (by kernel_rfl)) k2 bel lt2) trodAll_mk0))), rfl, bel.frame _, fun h => by cases h⟩
theorem reads (os : Os) {H : Type} (enc : TypeId × Value → H) : ∃ places, DataW.whole enc Tryd.prog ((laidWorld os).forCall (fun _ _ => 0) ⟨#[], #[Value.agg #[.int .i64 0, .int .i64 0], Value.agg #[.int .i64 0, .int .i64 0], Value.agg #[.int .i64 0, .int .i64 0]], []⟩).memory Tryd.f6.params.toList Rows.fractionOrderSpec.vars false (#[Value.agg #[.int .i64 0, .int .i64 0], Value.agg #[.int .i64 0, .int .i64 0], Value.agg #[.int .i64 0, .int .i64 0]] : Array Value).toList 8 = some ([DataW.agg [.lit (.int .i64 0), .lit (.int .i64 0)], DataW.agg [.lit (.int .i64 0), .lit (.int .i64 0)], DataW.agg [.lit (.int .i64 0), .lit (.int .i64 0)]], [], places) :=
  ⟨[], by kernel_rfl⟩
set_option maxRecDepth 100000 in
theorem lifted (os : Os) (started : os.Started) (H : Type) (enc : TypeId × Value → H) (F : Stop.Interp) :
    ReturnsInHanded {} Tryd.checked os 6 .any ((OpenSpec.ofChange Rows.fractionOrderSpec).preRow enc Tryd.prog Tryd.f6 Rows.fractionOrderRow.domain false Rows.fractionOrderRow.laid) (((OpenSpec.ofChange Rows.fractionOrderSpec).at F).post enc Tryd.prog Tryd.f6 false true false false) := by
  obtain ⟨places, hx⟩ := reads os enc
  refine returnsInHanded_of_row (C := Tryd.checked) (s := OpenSpec.ofChange Rows.fractionOrderSpec) own started (by kernel_rfl) Tryd.func6
    (witness_row_at (enc := enc) (C := Tryd.checked) false (laidWorld os) #[Value.agg #[.int .i64 0, .int .i64 0], Value.agg #[.int .i64 0, .int .i64 0], Value.agg #[.int .i64 0, .int .i64 0]] rfl (by kernel_rfl) (by kernel_rfl) (by kernel_rfl)
      (OpenSpec.preRow_of_cond 8 hx (by kernel_rfl) (fun k hk => by cases hk) (by kernel_rfl) (laid_met os _))) ?_
  intro W base args ds gs before hval hW _ _ _ hL _ _
  exact contract H enc W base args ds gs before hval hW hL
theorem said : Rows.FractionOrderSaid :=
  OpenClaim.holds_of_cond 6 Tryd.f6 rfl rfl rfl rfl rfl rfl rfl ⟨rfl, rfl, rfl, rfl, rfl⟩ rfl rfl rfl rfl rfl (by kernel_rfl) Tryd.func6 (by kernel_rfl)
    (of_decide_eq_true (by kernel_rfl)) (by unfold Func.isWrapper; first | (rw [if_pos (by decide +kernel)]; kernel_rfl) | (rw [if_neg (by decide +kernel)]; exact ⟨rfl, rfl⟩))
    (fun os started H enc _ F => by rw [OpenClaim.pre_eq_preRow]; exact lifted os started H enc F)
theorem plain (f : FuncId) (fn : Func) (hf : Tryd.pinned.checked.prog.funcNamed "assessor/assessorlaw46.FractionOrder" = some f) (hfn : Tryd.pinned.checked.prog.funcs[f]? = some fn) :
    true = Tryd.pinned.checked.prog.looks [] ∧ ∀ (j : Nat) t, fn.params[j]? = some t → Tryd.pinned.checked.prog.wantsStandIn t = false := by
  obtain rfl : f = 6 := Option.some.inj ((show Tryd.prog.funcNamed "assessor/assessorlaw46.FractionOrder" = some 6 by kernel_rfl).symm.trans hf) |>.symm
  obtain rfl : fn = Tryd.f6 := (Option.some.inj (Tryd.func6.symm.trans hfn)).symm
  refine ⟨by kernel_rfl, fun j t ht => ?_⟩
  rw [Tryd.params6] at ht
  have hm : t ∈ [23] := by have h := Array.mem_of_getElem? ht; simp at h ⊢; omega
  have hall : ([23].all fun u => !Tryd.prog.wantsStandIn u) = true := by kernel_rfl
  exact (show Tryd.prog.wantsStandIn t = false by simpa using List.all_eq_true.1 hall t hm)
theorem card : Rows.FractionOrderCardSaid :=
  Claim7.holds_tied_plain_at .later [] _ _ _ _ said (fun _ h => by cases h) (by kernel_rfl) (fun _ h => by cases h) fractionOrder_row_tie rfl ⟨rfl, rfl⟩ (by kernel_rfl) rfl plain (by kernel_rfl)
end Go.Proofs.YtkfibjmjamdigaaDoor.fractionOrder
namespace Go.Proofs.YtkfibjmjamdigaaDoor
/-- The card, under a short name, for the claim. -/
theorem fractionOrder_card_holds : Rows.FractionOrderCardSaid := fractionOrder.card
#print axioms fractionOrder_card_holds
end Go.Proofs.YtkfibjmjamdigaaDoor
