-- Written by wip/myprint.py (a program of this repo's own) out of the translation.
import Derived.Test.YtkfibjmjamdigaaDoorQF0
import Derived.Test.YtkfibjmjamdigaaDoorQF10
import Derived.Test.YtkfibjmjamdigaaDoorQFE0
import Derived.Test.YtkfibjmjamdigaaDoorQOpAdd
import Derived.Test.YtkfibjmjamdigaaDoorQOpDiv
import Derived.Test.YtkfibjmjamdigaaDoorQOpMul
import Derived.Test.YtkfibjmjamdigaaDoorQOpSub
import Derived.Test.YtkfibjmjamdigaaDoorQTab
namespace Go.Proofs.YtkfibjmjamdigaaDoor.Q
open Go.RowKit Go.Proofs.YtkfibjmjamdigaaDoorW.PrintWords Go.Proofs.YtkfibjmjamdigaaDoorW.PrintLast Go.Proofs.YtkfibjmjamdigaaDoorW.PrintMore
attribute [local go_sem] max2_int min2_int max_two min_two max_three min_three max_four min_four   -- for this text's walks alone
set_option linter.unusedVariables false
set_option linter.unusedSimpArgs false

attribute [local go_sem high] eqA23
/-! ### assessorlaw46_FractionField: function 4 -/
mutual
def assessorlaw46_FractionField.j0 : Nat → Int → Int → Bool → Int → Int → Int → Int → Int → Int → Int → Int → Int → Int → Option (Bool)
 | 0, _, _, _, _, _, _, _, _, _, _, _, _, _ => none
 | k + 1, x8, x12, x70, x189000, x189001, x190000, x190001, x191000, x191001, x196000, x196001, x204000, x204001 => if x70 = true then (some false) else (if x8 = 0 then ((fraction_Sub.f k x196000 x196001 x190000 x190001).bind fun bt208 => (if bt208.2.2 = 0 then (assessorlaw46_FractionField.j1 k x8 x12 (!(bt208.1 == x189000) || (!(bt208.2.1 == x189001))) x189000 x189001 x190000 x190001 x191000 x191001 x196000 x196001 x204000 x204001) else (assessorlaw46_FractionField.j1 k x8 x12 true x189000 x189001 x190000 x190001 x191000 x191001 x196000 x196001 x204000 x204001))) else (assessorlaw46_FractionField.j2 k x8 x12 x189000 x189001 x190000 x190001 x191000 x191001 x196000 x196001 x204000 x204001))
def assessorlaw46_FractionField.j2 : Nat → Int → Int → Int → Int → Int → Int → Int → Int → Int → Int → Int → Int → Option (Bool)
 | 0, _, _, _, _, _, _, _, _, _, _, _, _ => none
 | k + 1, x8, x12, x189000, x189001, x190000, x190001, x191000, x191001, x196000, x196001, x204000, x204001 => if x12 = 0 then (assessorlaw46_FractionField.j3 k x8 (x190000 != 0) x189000 x189001 x190000 x190001 x191000 x191001 x196000 x196001 x204000 x204001) else (assessorlaw46_FractionField.j3 k x8 false x189000 x189001 x190000 x190001 x191000 x191001 x196000 x196001 x204000 x204001)
def assessorlaw46_FractionField.j3 : Nat → Int → Bool → Int → Int → Int → Int → Int → Int → Int → Int → Int → Int → Option (Bool)
 | 0, _, _, _, _, _, _, _, _, _, _, _, _ => none
 | k + 1, x8, x92, x189000, x189001, x190000, x190001, x191000, x191001, x196000, x196001, x204000, x204001 => if x92 = true then ((fraction_Div.f k x204000 x204001 x190000 x190001).bind fun bt212 => (if bt212.2.2 = 0 then (assessorlaw46_FractionField.j4 k x8 (!(bt212.1 == x189000) || (!(bt212.2.1 == x189001))) x189000 x189001 x190000 x190001 x191000 x191001 x196000 x196001) else (assessorlaw46_FractionField.j4 k x8 true x189000 x189001 x190000 x190001 x191000 x191001 x196000 x196001))) else (assessorlaw46_FractionField.j5 k x8 x189000 x189001 x190000 x190001 x191000 x191001 x196000 x196001)
def assessorlaw46_FractionField.j5 : Nat → Int → Int → Int → Int → Int → Int → Int → Int → Int → Option (Bool)
 | 0, _, _, _, _, _, _, _, _, _ => none
 | k + 1, x8, x189000, x189001, x190000, x190001, x191000, x191001, x196000, x196001 => (fraction_Mul.f k x196000 x196001 x191000 x191001).bind fun bt216 => ((fraction_Mul.f k x189000 x189001 x191000 x191001).bind fun bt220 => ((fraction_Mul.f k x190000 x190001 x191000 x191001).bind fun bt224 => ((fraction_Add.f k bt220.1 bt220.2.1 bt224.1 bt224.2.1).bind fun bt228 => (if x8 = 0 then (if bt216.2.2 = 0 then (if bt220.2.2 = 0 then (if bt224.2.2 = 0 then (if bt228.2.2 = 0 then (assessorlaw46_FractionField.j6 k (bt216.1 == bt228.1 && (bt216.2.1 == bt228.2.1))) else (assessorlaw46_FractionField.j6 k true)) else (assessorlaw46_FractionField.j6 k true)) else (assessorlaw46_FractionField.j6 k true)) else (assessorlaw46_FractionField.j6 k true)) else (assessorlaw46_FractionField.j6 k true)))))
def assessorlaw46_FractionField.j6 : Nat → Bool → Option (Bool)
 | 0, _ => none
 | k + 1, x6 => some x6
def assessorlaw46_FractionField.j4 : Nat → Int → Bool → Int → Int → Int → Int → Int → Int → Int → Int → Option (Bool)
 | 0, _, _, _, _, _, _, _, _, _, _ => none
 | k + 1, x8, x105, x189000, x189001, x190000, x190001, x191000, x191001, x196000, x196001 => if x105 = true then (some false) else (assessorlaw46_FractionField.j5 k x8 x189000 x189001 x190000 x190001 x191000 x191001 x196000 x196001)
def assessorlaw46_FractionField.j1 : Nat → Int → Int → Bool → Int → Int → Int → Int → Int → Int → Int → Int → Int → Int → Option (Bool)
 | 0, _, _, _, _, _, _, _, _, _, _, _, _, _ => none
 | k + 1, x8, x12, x85, x189000, x189001, x190000, x190001, x191000, x191001, x196000, x196001, x204000, x204001 => if x85 = true then (some false) else (assessorlaw46_FractionField.j2 k x8 x12 x189000 x189001 x190000 x190001 x191000 x191001 x196000 x196001 x204000 x204001)
end
def assessorlaw46_FractionField.f (k : Nat) (a0_0 : Int) (a0_1 : Int) (a1_0 : Int) (a1_1 : Int) (a2_0 : Int) (a2_1 : Int) : Option (Bool) := (assessorlaw46_awake.f k).bind fun t191 => (if t191 = true then ((fraction_Add.f k a0_0 a0_1 a1_0 a1_1).bind fun bt192 => ((fraction_Add.f k a1_0 a1_1 a0_0 a0_1).bind fun bt196 => ((fraction_Mul.f k a0_0 a0_1 a1_0 a1_1).bind fun bt200 => ((fraction_Mul.f k a1_0 a1_1 a0_0 a0_1).bind fun bt204 => (if (!(bt192.1 == bt196.1) || (!(bt192.2.1 == bt196.2.1))) = true then (assessorlaw46_FractionField.j0 k bt192.2.2 bt200.2.2 true a0_0 a0_1 a1_0 a1_1 a2_0 a2_1 bt192.1 bt192.2.1 bt200.1 bt200.2.1) else (if bt192.2.2 = bt196.2.2 then (if (!(bt200.1 == bt204.1) || (!(bt200.2.1 == bt204.2.1))) = true then (assessorlaw46_FractionField.j0 k bt192.2.2 bt200.2.2 true a0_0 a0_1 a1_0 a1_1 a2_0 a2_1 bt192.1 bt192.2.1 bt200.1 bt200.2.1) else (assessorlaw46_FractionField.j0 k bt192.2.2 bt200.2.2 (bt200.2.2 != bt204.2.2) a0_0 a0_1 a1_0 a1_1 a2_0 a2_1 bt192.1 bt192.2.1 bt200.1 bt200.2.1)) else (assessorlaw46_FractionField.j0 k bt192.2.2 bt200.2.2 true a0_0 a0_1 a1_0 a1_1 a2_0 a2_1 bt192.1 bt192.2.1 bt200.1 bt200.2.1))))))) else (some false))
theorem assessorlaw46_FractionField.mono_l : ∀ k, (∀ y0 y1 y2 y3 y4 y5 y6 y7 y8 y9 y10 y11 y12, LeO (assessorlaw46_FractionField.j0 k y0 y1 y2 y3 y4 y5 y6 y7 y8 y9 y10 y11 y12) (assessorlaw46_FractionField.j0 (k + 1) y0 y1 y2 y3 y4 y5 y6 y7 y8 y9 y10 y11 y12)) ∧ (∀ y0 y1 y2 y3 y4 y5 y6 y7 y8 y9 y10 y11, LeO (assessorlaw46_FractionField.j2 k y0 y1 y2 y3 y4 y5 y6 y7 y8 y9 y10 y11) (assessorlaw46_FractionField.j2 (k + 1) y0 y1 y2 y3 y4 y5 y6 y7 y8 y9 y10 y11)) ∧ (∀ y0 y1 y2 y3 y4 y5 y6 y7 y8 y9 y10 y11, LeO (assessorlaw46_FractionField.j3 k y0 y1 y2 y3 y4 y5 y6 y7 y8 y9 y10 y11) (assessorlaw46_FractionField.j3 (k + 1) y0 y1 y2 y3 y4 y5 y6 y7 y8 y9 y10 y11)) ∧ (∀ y0 y1 y2 y3 y4 y5 y6 y7 y8, LeO (assessorlaw46_FractionField.j5 k y0 y1 y2 y3 y4 y5 y6 y7 y8) (assessorlaw46_FractionField.j5 (k + 1) y0 y1 y2 y3 y4 y5 y6 y7 y8)) ∧ (∀ y0, LeO (assessorlaw46_FractionField.j6 k y0) (assessorlaw46_FractionField.j6 (k + 1) y0)) ∧ (∀ y0 y1 y2 y3 y4 y5 y6 y7 y8 y9, LeO (assessorlaw46_FractionField.j4 k y0 y1 y2 y3 y4 y5 y6 y7 y8 y9) (assessorlaw46_FractionField.j4 (k + 1) y0 y1 y2 y3 y4 y5 y6 y7 y8 y9)) ∧ (∀ y0 y1 y2 y3 y4 y5 y6 y7 y8 y9 y10 y11 y12, LeO (assessorlaw46_FractionField.j1 k y0 y1 y2 y3 y4 y5 y6 y7 y8 y9 y10 y11 y12) (assessorlaw46_FractionField.j1 (k + 1) y0 y1 y2 y3 y4 y5 y6 y7 y8 y9 y10 y11 y12))
 | 0 => ⟨fun _ _ _ _ _ _ _ _ _ _ _ _ _ r h => by simp [assessorlaw46_FractionField.j0] at h, fun _ _ _ _ _ _ _ _ _ _ _ _ r h => by simp [assessorlaw46_FractionField.j2] at h, fun _ _ _ _ _ _ _ _ _ _ _ _ r h => by simp [assessorlaw46_FractionField.j3] at h, fun _ _ _ _ _ _ _ _ _ r h => by simp [assessorlaw46_FractionField.j5] at h, fun _ r h => by simp [assessorlaw46_FractionField.j6] at h, fun _ _ _ _ _ _ _ _ _ _ r h => by simp [assessorlaw46_FractionField.j4] at h, fun _ _ _ _ _ _ _ _ _ _ _ _ _ r h => by simp [assessorlaw46_FractionField.j1] at h⟩
 | k + 1 => by
  obtain ⟨ih0, ih1, ih2, ih3, ih4, ih5, ih6⟩ := assessorlaw46_FractionField.mono_l k
  refine ⟨?_, ?_, ?_, ?_, ?_, ?_, ?_⟩
  ·
   intro y0 y1 y2 y3 y4 y5 y6 y7 y8 y9 y10 y11 y12
   unfold assessorlaw46_FractionField.j0
   repeat' first
   | (with_reducible exact ih0 _ _ _ _ _ _ _ _ _ _ _ _ _)
   | (with_reducible exact ih1 _ _ _ _ _ _ _ _ _ _ _ _)
   | (with_reducible exact ih2 _ _ _ _ _ _ _ _ _ _ _ _)
   | (with_reducible exact ih3 _ _ _ _ _ _ _ _ _)
   | (with_reducible exact ih4 _)
   | (with_reducible exact ih5 _ _ _ _ _ _ _ _ _ _)
   | (with_reducible exact ih6 _ _ _ _ _ _ _ _ _ _ _ _ _)
   | (with_reducible exact assessorlaw46_awake.mono _)
   | (with_reducible exact fraction_Add.mono _ _ _ _ _)
   | (with_reducible exact fraction_Div.mono _ _ _ _ _)
   | (with_reducible exact fraction_Mul.mono _ _ _ _ _)
   | (with_reducible exact fraction_Sub.mono _ _ _ _ _)
   | (with_reducible exact LeO.refl _)
   | (with_reducible exact LeO.none _)
   | (with_reducible refine LeO.ite ?_ ?_)
   | (with_reducible refine LeO.bind ?_ (fun _ => ?_))
   | exact ih0 _ _ _ _ _ _ _ _ _ _ _ _ _
   | exact ih1 _ _ _ _ _ _ _ _ _ _ _ _
   | exact ih2 _ _ _ _ _ _ _ _ _ _ _ _
   | exact ih3 _ _ _ _ _ _ _ _ _
   | exact ih4 _
   | exact ih5 _ _ _ _ _ _ _ _ _ _
   | exact ih6 _ _ _ _ _ _ _ _ _ _ _ _ _
   | exact assessorlaw46_awake.mono _
   | exact fraction_Add.mono _ _ _ _ _
   | exact fraction_Div.mono _ _ _ _ _
   | exact fraction_Mul.mono _ _ _ _ _
   | exact fraction_Sub.mono _ _ _ _ _
   | exact LeO.none _
   | refine LeO.ite ?_ ?_
   | refine LeO.bind ?_ (fun _ => ?_)
  ·
   intro y0 y1 y2 y3 y4 y5 y6 y7 y8 y9 y10 y11
   unfold assessorlaw46_FractionField.j2
   repeat' first
   | (with_reducible exact ih0 _ _ _ _ _ _ _ _ _ _ _ _ _)
   | (with_reducible exact ih1 _ _ _ _ _ _ _ _ _ _ _ _)
   | (with_reducible exact ih2 _ _ _ _ _ _ _ _ _ _ _ _)
   | (with_reducible exact ih3 _ _ _ _ _ _ _ _ _)
   | (with_reducible exact ih4 _)
   | (with_reducible exact ih5 _ _ _ _ _ _ _ _ _ _)
   | (with_reducible exact ih6 _ _ _ _ _ _ _ _ _ _ _ _ _)
   | (with_reducible exact assessorlaw46_awake.mono _)
   | (with_reducible exact fraction_Add.mono _ _ _ _ _)
   | (with_reducible exact fraction_Div.mono _ _ _ _ _)
   | (with_reducible exact fraction_Mul.mono _ _ _ _ _)
   | (with_reducible exact fraction_Sub.mono _ _ _ _ _)
   | (with_reducible exact LeO.refl _)
   | (with_reducible exact LeO.none _)
   | (with_reducible refine LeO.ite ?_ ?_)
   | (with_reducible refine LeO.bind ?_ (fun _ => ?_))
   | exact ih0 _ _ _ _ _ _ _ _ _ _ _ _ _
   | exact ih1 _ _ _ _ _ _ _ _ _ _ _ _
   | exact ih2 _ _ _ _ _ _ _ _ _ _ _ _
   | exact ih3 _ _ _ _ _ _ _ _ _
   | exact ih4 _
   | exact ih5 _ _ _ _ _ _ _ _ _ _
   | exact ih6 _ _ _ _ _ _ _ _ _ _ _ _ _
   | exact assessorlaw46_awake.mono _
   | exact fraction_Add.mono _ _ _ _ _
   | exact fraction_Div.mono _ _ _ _ _
   | exact fraction_Mul.mono _ _ _ _ _
   | exact fraction_Sub.mono _ _ _ _ _
   | exact LeO.none _
   | refine LeO.ite ?_ ?_
   | refine LeO.bind ?_ (fun _ => ?_)
  ·
   intro y0 y1 y2 y3 y4 y5 y6 y7 y8 y9 y10 y11
   unfold assessorlaw46_FractionField.j3
   repeat' first
   | (with_reducible exact ih0 _ _ _ _ _ _ _ _ _ _ _ _ _)
   | (with_reducible exact ih1 _ _ _ _ _ _ _ _ _ _ _ _)
   | (with_reducible exact ih2 _ _ _ _ _ _ _ _ _ _ _ _)
   | (with_reducible exact ih3 _ _ _ _ _ _ _ _ _)
   | (with_reducible exact ih4 _)
   | (with_reducible exact ih5 _ _ _ _ _ _ _ _ _ _)
   | (with_reducible exact ih6 _ _ _ _ _ _ _ _ _ _ _ _ _)
   | (with_reducible exact assessorlaw46_awake.mono _)
   | (with_reducible exact fraction_Add.mono _ _ _ _ _)
   | (with_reducible exact fraction_Div.mono _ _ _ _ _)
   | (with_reducible exact fraction_Mul.mono _ _ _ _ _)
   | (with_reducible exact fraction_Sub.mono _ _ _ _ _)
   | (with_reducible exact LeO.refl _)
   | (with_reducible exact LeO.none _)
   | (with_reducible refine LeO.ite ?_ ?_)
   | (with_reducible refine LeO.bind ?_ (fun _ => ?_))
   | exact ih0 _ _ _ _ _ _ _ _ _ _ _ _ _
   | exact ih1 _ _ _ _ _ _ _ _ _ _ _ _
   | exact ih2 _ _ _ _ _ _ _ _ _ _ _ _
   | exact ih3 _ _ _ _ _ _ _ _ _
   | exact ih4 _
   | exact ih5 _ _ _ _ _ _ _ _ _ _
   | exact ih6 _ _ _ _ _ _ _ _ _ _ _ _ _
   | exact assessorlaw46_awake.mono _
   | exact fraction_Add.mono _ _ _ _ _
   | exact fraction_Div.mono _ _ _ _ _
   | exact fraction_Mul.mono _ _ _ _ _
   | exact fraction_Sub.mono _ _ _ _ _
   | exact LeO.none _
   | refine LeO.ite ?_ ?_
   | refine LeO.bind ?_ (fun _ => ?_)
  ·
   intro y0 y1 y2 y3 y4 y5 y6 y7 y8
   unfold assessorlaw46_FractionField.j5
   repeat' first
   | (with_reducible exact ih0 _ _ _ _ _ _ _ _ _ _ _ _ _)
   | (with_reducible exact ih1 _ _ _ _ _ _ _ _ _ _ _ _)
   | (with_reducible exact ih2 _ _ _ _ _ _ _ _ _ _ _ _)
   | (with_reducible exact ih3 _ _ _ _ _ _ _ _ _)
   | (with_reducible exact ih4 _)
   | (with_reducible exact ih5 _ _ _ _ _ _ _ _ _ _)
   | (with_reducible exact ih6 _ _ _ _ _ _ _ _ _ _ _ _ _)
   | (with_reducible exact assessorlaw46_awake.mono _)
   | (with_reducible exact fraction_Add.mono _ _ _ _ _)
   | (with_reducible exact fraction_Div.mono _ _ _ _ _)
   | (with_reducible exact fraction_Mul.mono _ _ _ _ _)
   | (with_reducible exact fraction_Sub.mono _ _ _ _ _)
   | (with_reducible exact LeO.refl _)
   | (with_reducible exact LeO.none _)
   | (with_reducible refine LeO.ite ?_ ?_)
   | (with_reducible refine LeO.bind ?_ (fun _ => ?_))
   | exact ih0 _ _ _ _ _ _ _ _ _ _ _ _ _
   | exact ih1 _ _ _ _ _ _ _ _ _ _ _ _
   | exact ih2 _ _ _ _ _ _ _ _ _ _ _ _
   | exact ih3 _ _ _ _ _ _ _ _ _
   | exact ih4 _
   | exact ih5 _ _ _ _ _ _ _ _ _ _
   | exact ih6 _ _ _ _ _ _ _ _ _ _ _ _ _
   | exact assessorlaw46_awake.mono _
   | exact fraction_Add.mono _ _ _ _ _
   | exact fraction_Div.mono _ _ _ _ _
   | exact fraction_Mul.mono _ _ _ _ _
   | exact fraction_Sub.mono _ _ _ _ _
   | exact LeO.none _
   | refine LeO.ite ?_ ?_
   | refine LeO.bind ?_ (fun _ => ?_)
  ·
   intro y0
   unfold assessorlaw46_FractionField.j6
   repeat' first
   | (with_reducible exact ih0 _ _ _ _ _ _ _ _ _ _ _ _ _)
   | (with_reducible exact ih1 _ _ _ _ _ _ _ _ _ _ _ _)
   | (with_reducible exact ih2 _ _ _ _ _ _ _ _ _ _ _ _)
   | (with_reducible exact ih3 _ _ _ _ _ _ _ _ _)
   | (with_reducible exact ih4 _)
   | (with_reducible exact ih5 _ _ _ _ _ _ _ _ _ _)
   | (with_reducible exact ih6 _ _ _ _ _ _ _ _ _ _ _ _ _)
   | (with_reducible exact assessorlaw46_awake.mono _)
   | (with_reducible exact fraction_Add.mono _ _ _ _ _)
   | (with_reducible exact fraction_Div.mono _ _ _ _ _)
   | (with_reducible exact fraction_Mul.mono _ _ _ _ _)
   | (with_reducible exact fraction_Sub.mono _ _ _ _ _)
   | (with_reducible exact LeO.refl _)
   | (with_reducible exact LeO.none _)
   | (with_reducible refine LeO.ite ?_ ?_)
   | (with_reducible refine LeO.bind ?_ (fun _ => ?_))
   | exact ih0 _ _ _ _ _ _ _ _ _ _ _ _ _
   | exact ih1 _ _ _ _ _ _ _ _ _ _ _ _
   | exact ih2 _ _ _ _ _ _ _ _ _ _ _ _
   | exact ih3 _ _ _ _ _ _ _ _ _
   | exact ih4 _
   | exact ih5 _ _ _ _ _ _ _ _ _ _
   | exact ih6 _ _ _ _ _ _ _ _ _ _ _ _ _
   | exact assessorlaw46_awake.mono _
   | exact fraction_Add.mono _ _ _ _ _
   | exact fraction_Div.mono _ _ _ _ _
   | exact fraction_Mul.mono _ _ _ _ _
   | exact fraction_Sub.mono _ _ _ _ _
   | exact LeO.none _
   | refine LeO.ite ?_ ?_
   | refine LeO.bind ?_ (fun _ => ?_)
  ·
   intro y0 y1 y2 y3 y4 y5 y6 y7 y8 y9
   unfold assessorlaw46_FractionField.j4
   repeat' first
   | (with_reducible exact ih0 _ _ _ _ _ _ _ _ _ _ _ _ _)
   | (with_reducible exact ih1 _ _ _ _ _ _ _ _ _ _ _ _)
   | (with_reducible exact ih2 _ _ _ _ _ _ _ _ _ _ _ _)
   | (with_reducible exact ih3 _ _ _ _ _ _ _ _ _)
   | (with_reducible exact ih4 _)
   | (with_reducible exact ih5 _ _ _ _ _ _ _ _ _ _)
   | (with_reducible exact ih6 _ _ _ _ _ _ _ _ _ _ _ _ _)
   | (with_reducible exact assessorlaw46_awake.mono _)
   | (with_reducible exact fraction_Add.mono _ _ _ _ _)
   | (with_reducible exact fraction_Div.mono _ _ _ _ _)
   | (with_reducible exact fraction_Mul.mono _ _ _ _ _)
   | (with_reducible exact fraction_Sub.mono _ _ _ _ _)
   | (with_reducible exact LeO.refl _)
   | (with_reducible exact LeO.none _)
   | (with_reducible refine LeO.ite ?_ ?_)
   | (with_reducible refine LeO.bind ?_ (fun _ => ?_))
   | exact ih0 _ _ _ _ _ _ _ _ _ _ _ _ _
   | exact ih1 _ _ _ _ _ _ _ _ _ _ _ _
   | exact ih2 _ _ _ _ _ _ _ _ _ _ _ _
   | exact ih3 _ _ _ _ _ _ _ _ _
   | exact ih4 _
   | exact ih5 _ _ _ _ _ _ _ _ _ _
   | exact ih6 _ _ _ _ _ _ _ _ _ _ _ _ _
   | exact assessorlaw46_awake.mono _
   | exact fraction_Add.mono _ _ _ _ _
   | exact fraction_Div.mono _ _ _ _ _
   | exact fraction_Mul.mono _ _ _ _ _
   | exact fraction_Sub.mono _ _ _ _ _
   | exact LeO.none _
   | refine LeO.ite ?_ ?_
   | refine LeO.bind ?_ (fun _ => ?_)
  ·
   intro y0 y1 y2 y3 y4 y5 y6 y7 y8 y9 y10 y11 y12
   unfold assessorlaw46_FractionField.j1
   repeat' first
   | (with_reducible exact ih0 _ _ _ _ _ _ _ _ _ _ _ _ _)
   | (with_reducible exact ih1 _ _ _ _ _ _ _ _ _ _ _ _)
   | (with_reducible exact ih2 _ _ _ _ _ _ _ _ _ _ _ _)
   | (with_reducible exact ih3 _ _ _ _ _ _ _ _ _)
   | (with_reducible exact ih4 _)
   | (with_reducible exact ih5 _ _ _ _ _ _ _ _ _ _)
   | (with_reducible exact ih6 _ _ _ _ _ _ _ _ _ _ _ _ _)
   | (with_reducible exact assessorlaw46_awake.mono _)
   | (with_reducible exact fraction_Add.mono _ _ _ _ _)
   | (with_reducible exact fraction_Div.mono _ _ _ _ _)
   | (with_reducible exact fraction_Mul.mono _ _ _ _ _)
   | (with_reducible exact fraction_Sub.mono _ _ _ _ _)
   | (with_reducible exact LeO.refl _)
   | (with_reducible exact LeO.none _)
   | (with_reducible refine LeO.ite ?_ ?_)
   | (with_reducible refine LeO.bind ?_ (fun _ => ?_))
   | exact ih0 _ _ _ _ _ _ _ _ _ _ _ _ _
   | exact ih1 _ _ _ _ _ _ _ _ _ _ _ _
   | exact ih2 _ _ _ _ _ _ _ _ _ _ _ _
   | exact ih3 _ _ _ _ _ _ _ _ _
   | exact ih4 _
   | exact ih5 _ _ _ _ _ _ _ _ _ _
   | exact ih6 _ _ _ _ _ _ _ _ _ _ _ _ _
   | exact assessorlaw46_awake.mono _
   | exact fraction_Add.mono _ _ _ _ _
   | exact fraction_Div.mono _ _ _ _ _
   | exact fraction_Mul.mono _ _ _ _ _
   | exact fraction_Sub.mono _ _ _ _ _
   | exact LeO.none _
   | refine LeO.ite ?_ ?_
   | refine LeO.bind ?_ (fun _ => ?_)
theorem assessorlaw46_FractionField.mono : ∀ a0 a1 a2 a3 a4 a5 k, LeO (assessorlaw46_FractionField.f k a0 a1 a2 a3 a4 a5) (assessorlaw46_FractionField.f (k + 1) a0 a1 a2 a3 a4 a5) := by
 intro a0 a1 a2 a3 a4 a5 k
 obtain ⟨ih0, ih1, ih2, ih3, ih4, ih5, ih6⟩ := assessorlaw46_FractionField.mono_l k
 unfold assessorlaw46_FractionField.f
 repeat' first
   | (with_reducible exact ih0 _ _ _ _ _ _ _ _ _ _ _ _ _)
   | (with_reducible exact ih1 _ _ _ _ _ _ _ _ _ _ _ _)
   | (with_reducible exact ih2 _ _ _ _ _ _ _ _ _ _ _ _)
   | (with_reducible exact ih3 _ _ _ _ _ _ _ _ _)
   | (with_reducible exact ih4 _)
   | (with_reducible exact ih5 _ _ _ _ _ _ _ _ _ _)
   | (with_reducible exact ih6 _ _ _ _ _ _ _ _ _ _ _ _ _)
   | (with_reducible exact assessorlaw46_awake.mono _)
   | (with_reducible exact fraction_Add.mono _ _ _ _ _)
   | (with_reducible exact fraction_Div.mono _ _ _ _ _)
   | (with_reducible exact fraction_Mul.mono _ _ _ _ _)
   | (with_reducible exact fraction_Sub.mono _ _ _ _ _)
   | (with_reducible exact LeO.refl _)
   | (with_reducible exact LeO.none _)
   | (with_reducible refine LeO.ite ?_ ?_)
   | (with_reducible refine LeO.bind ?_ (fun _ => ?_))
   | exact ih0 _ _ _ _ _ _ _ _ _ _ _ _ _
   | exact ih1 _ _ _ _ _ _ _ _ _ _ _ _
   | exact ih2 _ _ _ _ _ _ _ _ _ _ _ _
   | exact ih3 _ _ _ _ _ _ _ _ _
   | exact ih4 _
   | exact ih5 _ _ _ _ _ _ _ _ _ _
   | exact ih6 _ _ _ _ _ _ _ _ _ _ _ _ _
   | exact assessorlaw46_awake.mono _
   | exact fraction_Add.mono _ _ _ _ _
   | exact fraction_Div.mono _ _ _ _ _
   | exact fraction_Mul.mono _ _ _ _ _
   | exact fraction_Sub.mono _ _ _ _ _
   | exact LeO.none _
   | refine LeO.ite ?_ ?_
   | refine LeO.bind ?_ (fun _ => ?_)
set_option maxHeartbeats 8000000 in
set_option maxRecDepth 100000 in
theorem assessorlaw46_FractionField.calls (k : Nat) (a0_0 : Int) (a0_1 : Int) (a1_0 : Int) (a1_1 : Int) (a2_0 : Int) (a2_1 : Int) (r : Bool) (w : World) (hr_ : Aside0 (r = true)) (hT_ : Tab w) (h : assessorlaw46_FractionField.f k a0_0 a0_1 a1_0 a1_1 a2_0 a2_1 = some r) :
  Calls Tryd.prog 4 #[.agg #[.int .i64 a0_0, .int .i64 a0_1], .agg #[.int .i64 a1_0, .int .i64 a1_1], .agg #[.int .i64 a2_0, .int .i64 a2_1]] w fun e w' => e = .returned (.bool r) ∧ Below w.heap.size w w' := by
 have hu23 := Tryd.underlying23
 have HB := Aside0.mk (Below.refl w.heap.size w)
 have H : ((assessorlaw46_awake.f k).bind fun t191 => (if t191 = true then ((fraction_Add.f k a0_0 a0_1 a1_0 a1_1).bind fun bt192 => ((fraction_Add.f k a1_0 a1_1 a0_0 a0_1).bind fun bt196 => ((fraction_Mul.f k a0_0 a0_1 a1_0 a1_1).bind fun bt200 => ((fraction_Mul.f k a1_0 a1_1 a0_0 a0_1).bind fun bt204 => (if (!(bt192.1 == bt196.1) || (!(bt192.2.1 == bt196.2.1))) = true then (assessorlaw46_FractionField.j0 k bt192.2.2 bt200.2.2 true a0_0 a0_1 a1_0 a1_1 a2_0 a2_1 bt192.1 bt192.2.1 bt200.1 bt200.2.1) else (if bt192.2.2 = bt196.2.2 then (if (!(bt200.1 == bt204.1) || (!(bt200.2.1 == bt204.2.1))) = true then (assessorlaw46_FractionField.j0 k bt192.2.2 bt200.2.2 true a0_0 a0_1 a1_0 a1_1 a2_0 a2_1 bt192.1 bt192.2.1 bt200.1 bt200.2.1) else (assessorlaw46_FractionField.j0 k bt192.2.2 bt200.2.2 (bt200.2.2 != bt204.2.2) a0_0 a0_1 a1_0 a1_1 a2_0 a2_1 bt192.1 bt192.2.1 bt200.1 bt200.2.1)) else (assessorlaw46_FractionField.j0 k bt192.2.2 bt200.2.2 true a0_0 a0_1 a1_0 a1_1 a2_0 a2_1 bt192.1 bt192.2.1 bt200.1 bt200.2.1))))))) else (some false))) = some r := h
 clear h
 replace H := Option.bind_eq_some_iff.mp H
 obtain ⟨t191, A40, H⟩ := H
 replace H : (if t191 = true then ((fraction_Add.f k a0_0 a0_1 a1_0 a1_1).bind fun bt192 => ((fraction_Add.f k a1_0 a1_1 a0_0 a0_1).bind fun bt196 => ((fraction_Mul.f k a0_0 a0_1 a1_0 a1_1).bind fun bt200 => ((fraction_Mul.f k a1_0 a1_1 a0_0 a0_1).bind fun bt204 => (if (!(bt192.1 == bt196.1) || (!(bt192.2.1 == bt196.2.1))) = true then (assessorlaw46_FractionField.j0 k bt192.2.2 bt200.2.2 true a0_0 a0_1 a1_0 a1_1 a2_0 a2_1 bt192.1 bt192.2.1 bt200.1 bt200.2.1) else (if bt192.2.2 = bt196.2.2 then (if (!(bt200.1 == bt204.1) || (!(bt200.2.1 == bt204.2.1))) = true then (assessorlaw46_FractionField.j0 k bt192.2.2 bt200.2.2 true a0_0 a0_1 a1_0 a1_1 a2_0 a2_1 bt192.1 bt192.2.1 bt200.1 bt200.2.1) else (assessorlaw46_FractionField.j0 k bt192.2.2 bt200.2.2 (bt200.2.2 != bt204.2.2) a0_0 a0_1 a1_0 a1_1 a2_0 a2_1 bt192.1 bt192.2.1 bt200.1 bt200.2.1)) else (assessorlaw46_FractionField.j0 k bt192.2.2 bt200.2.2 true a0_0 a0_1 a1_0 a1_1 a2_0 a2_1 bt192.1 bt192.2.1 bt200.1 bt200.2.1))))))) else (some false)) = some r := H
 have A4 := Aside0.mk A40
 clear A40
 by_cases c5 : t191 = true
 ·
  subst c5
  have H1 : ((fraction_Add.f k a0_0 a0_1 a1_0 a1_1).bind fun bt192 => ((fraction_Add.f k a1_0 a1_1 a0_0 a0_1).bind fun bt196 => ((fraction_Mul.f k a0_0 a0_1 a1_0 a1_1).bind fun bt200 => ((fraction_Mul.f k a1_0 a1_1 a0_0 a0_1).bind fun bt204 => (if (!(bt192.1 == bt196.1) || (!(bt192.2.1 == bt196.2.1))) = true then (assessorlaw46_FractionField.j0 k bt192.2.2 bt200.2.2 true a0_0 a0_1 a1_0 a1_1 a2_0 a2_1 bt192.1 bt192.2.1 bt200.1 bt200.2.1) else (if bt192.2.2 = bt196.2.2 then (if (!(bt200.1 == bt204.1) || (!(bt200.2.1 == bt204.2.1))) = true then (assessorlaw46_FractionField.j0 k bt192.2.2 bt200.2.2 true a0_0 a0_1 a1_0 a1_1 a2_0 a2_1 bt192.1 bt192.2.1 bt200.1 bt200.2.1) else (assessorlaw46_FractionField.j0 k bt192.2.2 bt200.2.2 (bt200.2.2 != bt204.2.2) a0_0 a0_1 a1_0 a1_1 a2_0 a2_1 bt192.1 bt192.2.1 bt200.1 bt200.2.1)) else (assessorlaw46_FractionField.j0 k bt192.2.2 bt200.2.2 true a0_0 a0_1 a1_0 a1_1 a2_0 a2_1 bt192.1 bt192.2.1 bt200.1 bt200.2.1))))))) = some r := by rw [if_pos rfl] at H; exact H
  clear H
  have H := H1
  clear H1
  replace H := Option.bind_eq_some_iff.mp H
  obtain ⟨⟨t192, t193, t194⟩, A60, H⟩ := H
  replace H : ((fraction_Add.f k a1_0 a1_1 a0_0 a0_1).bind fun bt196 => ((fraction_Mul.f k a0_0 a0_1 a1_0 a1_1).bind fun bt200 => ((fraction_Mul.f k a1_0 a1_1 a0_0 a0_1).bind fun bt204 => (if (!(t192 == bt196.1) || (!(t193 == bt196.2.1))) = true then (assessorlaw46_FractionField.j0 k t194 bt200.2.2 true a0_0 a0_1 a1_0 a1_1 a2_0 a2_1 t192 t193 bt200.1 bt200.2.1) else (if t194 = bt196.2.2 then (if (!(bt200.1 == bt204.1) || (!(bt200.2.1 == bt204.2.1))) = true then (assessorlaw46_FractionField.j0 k t194 bt200.2.2 true a0_0 a0_1 a1_0 a1_1 a2_0 a2_1 t192 t193 bt200.1 bt200.2.1) else (assessorlaw46_FractionField.j0 k t194 bt200.2.2 (bt200.2.2 != bt204.2.2) a0_0 a0_1 a1_0 a1_1 a2_0 a2_1 t192 t193 bt200.1 bt200.2.1)) else (assessorlaw46_FractionField.j0 k t194 bt200.2.2 true a0_0 a0_1 a1_0 a1_1 a2_0 a2_1 t192 t193 bt200.1 bt200.2.1)))))) = some r := H
  have A6 := Aside0.mk A60
  clear A60
  replace H := Option.bind_eq_some_iff.mp H
  obtain ⟨⟨t196, t197, t198⟩, A70, H⟩ := H
  replace H : ((fraction_Mul.f k a0_0 a0_1 a1_0 a1_1).bind fun bt200 => ((fraction_Mul.f k a1_0 a1_1 a0_0 a0_1).bind fun bt204 => (if (!(t192 == t196) || (!(t193 == t197))) = true then (assessorlaw46_FractionField.j0 k t194 bt200.2.2 true a0_0 a0_1 a1_0 a1_1 a2_0 a2_1 t192 t193 bt200.1 bt200.2.1) else (if t194 = t198 then (if (!(bt200.1 == bt204.1) || (!(bt200.2.1 == bt204.2.1))) = true then (assessorlaw46_FractionField.j0 k t194 bt200.2.2 true a0_0 a0_1 a1_0 a1_1 a2_0 a2_1 t192 t193 bt200.1 bt200.2.1) else (assessorlaw46_FractionField.j0 k t194 bt200.2.2 (bt200.2.2 != bt204.2.2) a0_0 a0_1 a1_0 a1_1 a2_0 a2_1 t192 t193 bt200.1 bt200.2.1)) else (assessorlaw46_FractionField.j0 k t194 bt200.2.2 true a0_0 a0_1 a1_0 a1_1 a2_0 a2_1 t192 t193 bt200.1 bt200.2.1))))) = some r := H
  have A7 := Aside0.mk A70
  clear A70
  replace H := Option.bind_eq_some_iff.mp H
  obtain ⟨⟨t200, t201, t202⟩, A80, H⟩ := H
  replace H : ((fraction_Mul.f k a1_0 a1_1 a0_0 a0_1).bind fun bt204 => (if (!(t192 == t196) || (!(t193 == t197))) = true then (assessorlaw46_FractionField.j0 k t194 t202 true a0_0 a0_1 a1_0 a1_1 a2_0 a2_1 t192 t193 t200 t201) else (if t194 = t198 then (if (!(t200 == bt204.1) || (!(t201 == bt204.2.1))) = true then (assessorlaw46_FractionField.j0 k t194 t202 true a0_0 a0_1 a1_0 a1_1 a2_0 a2_1 t192 t193 t200 t201) else (assessorlaw46_FractionField.j0 k t194 t202 (t202 != bt204.2.2) a0_0 a0_1 a1_0 a1_1 a2_0 a2_1 t192 t193 t200 t201)) else (assessorlaw46_FractionField.j0 k t194 t202 true a0_0 a0_1 a1_0 a1_1 a2_0 a2_1 t192 t193 t200 t201)))) = some r := H
  have A8 := Aside0.mk A80
  clear A80
  replace H := Option.bind_eq_some_iff.mp H
  obtain ⟨⟨t204, t205, t206⟩, A90, H⟩ := H
  replace H : (if (!(t192 == t196) || (!(t193 == t197))) = true then (assessorlaw46_FractionField.j0 k t194 t202 true a0_0 a0_1 a1_0 a1_1 a2_0 a2_1 t192 t193 t200 t201) else (if t194 = t198 then (if (!(t200 == t204) || (!(t201 == t205))) = true then (assessorlaw46_FractionField.j0 k t194 t202 true a0_0 a0_1 a1_0 a1_1 a2_0 a2_1 t192 t193 t200 t201) else (assessorlaw46_FractionField.j0 k t194 t202 (t202 != t206) a0_0 a0_1 a1_0 a1_1 a2_0 a2_1 t192 t193 t200 t201)) else (assessorlaw46_FractionField.j0 k t194 t202 true a0_0 a0_1 a1_0 a1_1 a2_0 a2_1 t192 t193 t200 t201))) = some r := H
  have A9 := Aside0.mk A90
  clear A90
  have HC10 := Aside0.mk H
  clear H
  go_enter Tryd.func4, Tryd.ntmps4
  go_upto_region 7 with (first | ((with_reducible refine gate_dst (N := 3) rfl ?_); refine box_event ?hg (N := 3) ?hd (cs := #[.int .i64 a0_0, .int .i64 a0_1]) (t := 23) ?hr ?_; (case hd => rfl); (case hg => rfl); (case hr => first | (go_simp; done) | (go_simp; rfl)); intro gb188 hg w11 hbox hb; have n0_ := Aside0.mk (below_step (by repeat (first | (with_reducible first | exact HB.out | apply b4 | apply b5 | apply b6) | exact HB.out)) hb); have n1_ := Aside0.mk (hbox); have n2_ := Aside0.mk ((by rw [hg]; exact (below_size (by repeat (first | (with_reducible first | exact HB.out | apply b4 | apply b5 | apply b6) | exact HB.out))) : w.heap.size ≤ gb188)); have n3_ := Aside0.mk ((by rw [hg]; exact (below_size (by repeat (first | (with_reducible first | exact HB.out | apply b4 | apply b5 | apply b6) | exact HB.out))) : w.heap.size ≤ gb188)); clear HB; have HB := n0_; have BK188 := n1_; have GW188 := n2_; have GE188 := n3_; clear n0_ n1_ n2_ n3_; clear hb hbox hg) | ((with_reducible refine gate_dst (N := 4) rfl ?_); refine box_event ?hg (N := 4) ?hd (cs := #[.int .i64 a1_0, .int .i64 a1_1]) (t := 23) ?hr ?_; (case hd => rfl); (case hg => rfl); (case hr => first | (go_simp; done) | (go_simp; rfl)); intro gb189 hg w12 hbox hb; have n0_ := Aside0.mk (blk_below (g := gb188) (o := .cells #[.int .i64 a0_0, .int .i64 a0_1] 23 (0, 0)) (by (with_reducible repeat first | apply b1 | apply b2 | apply b3); exact BK188.out) hb); have n1_ := Aside0.mk (below_step (by repeat (first | (with_reducible first | exact HB.out | apply b4 | apply b5 | apply b6 | refine below_set ?_ GE188.out) | exact HB.out)) hb); have n2_ := Aside0.mk (hbox); have n3_ := Aside0.mk ((by rw [hg]; exact (below_size (by repeat (first | (with_reducible first | exact HB.out | apply b4 | apply b5 | apply b6 | refine below_set ?_ GE188.out) | exact HB.out))) : w.heap.size ≤ gb189)); have n4_ := Aside0.mk ((by rw [hg]; exact (below_size (by repeat (first | (with_reducible first | exact HB.out | apply b4 | apply b5 | apply b6 | refine below_set ?_ GE188.out) | exact HB.out))) : w.heap.size ≤ gb189)); have n5_ := Aside0.mk ((by rw [hg]; exact Nat.ne_of_lt (blk_lt (g := gb188) (o := .cells #[.int .i64 a0_0, .int .i64 a0_1] 23 (0, 0)) (by (with_reducible repeat first | apply b1 | apply b2 | apply b3); exact BK188.out)) : gb188 ≠ gb189)); have n6_ := Aside0.mk ((by rw [hg]; exact Nat.ne_of_gt (blk_lt (g := gb188) (o := .cells #[.int .i64 a0_0, .int .i64 a0_1] 23 (0, 0)) (by (with_reducible repeat first | apply b1 | apply b2 | apply b3); exact BK188.out)) : gb189 ≠ gb188)); clear BK188; clear HB; have BK188 := n0_; have HB := n1_; have BK189 := n2_; have GW189 := n3_; have GE189 := n4_; have NB188_189 := n5_; have NB189_188 := n6_; clear n0_ n1_ n2_ n3_ n4_ n5_ n6_; clear hb hbox hg) | ((with_reducible refine gate_dst (N := 5) rfl ?_); refine box_event ?hg (N := 5) ?hd (cs := #[.int .i64 a2_0, .int .i64 a2_1]) (t := 23) ?hr ?_; (case hd => rfl); (case hg => rfl); (case hr => first | (go_simp; done) | (go_simp; rfl)); intro gb190 hg w13 hbox hb; have n0_ := Aside0.mk (blk_below (g := gb188) (o := .cells #[.int .i64 a0_0, .int .i64 a0_1] 23 (0, 0)) (by (with_reducible repeat first | apply b1 | apply b2 | apply b3); exact BK188.out) hb); have n1_ := Aside0.mk (blk_below (g := gb189) (o := .cells #[.int .i64 a1_0, .int .i64 a1_1] 23 (0, 0)) (by (with_reducible repeat first | apply b1 | apply b2 | apply b3); exact BK189.out) hb); have n2_ := Aside0.mk (below_step (by repeat (first | (with_reducible first | exact HB.out | apply b4 | apply b5 | apply b6 | refine below_set ?_ GE188.out | refine below_set ?_ GE189.out) | exact HB.out)) hb); have n3_ := Aside0.mk (hbox); have n4_ := Aside0.mk ((by rw [hg]; exact (below_size (by repeat (first | (with_reducible first | exact HB.out | apply b4 | apply b5 | apply b6 | refine below_set ?_ GE188.out | refine below_set ?_ GE189.out) | exact HB.out))) : w.heap.size ≤ gb190)); have n5_ := Aside0.mk ((by rw [hg]; exact (below_size (by repeat (first | (with_reducible first | exact HB.out | apply b4 | apply b5 | apply b6 | refine below_set ?_ GE188.out | refine below_set ?_ GE189.out) | exact HB.out))) : w.heap.size ≤ gb190)); have n6_ := Aside0.mk ((by rw [hg]; exact Nat.ne_of_lt (blk_lt (g := gb188) (o := .cells #[.int .i64 a0_0, .int .i64 a0_1] 23 (0, 0)) (by (with_reducible repeat first | apply b1 | apply b2 | apply b3); exact BK188.out)) : gb188 ≠ gb190)); have n7_ := Aside0.mk ((by rw [hg]; exact Nat.ne_of_gt (blk_lt (g := gb188) (o := .cells #[.int .i64 a0_0, .int .i64 a0_1] 23 (0, 0)) (by (with_reducible repeat first | apply b1 | apply b2 | apply b3); exact BK188.out)) : gb190 ≠ gb188)); have n8_ := Aside0.mk ((by rw [hg]; exact Nat.ne_of_lt (blk_lt (g := gb189) (o := .cells #[.int .i64 a1_0, .int .i64 a1_1] 23 (0, 0)) (by (with_reducible repeat first | apply b1 | apply b2 | apply b3); exact BK189.out)) : gb189 ≠ gb190)); have n9_ := Aside0.mk ((by rw [hg]; exact Nat.ne_of_gt (blk_lt (g := gb189) (o := .cells #[.int .i64 a1_0, .int .i64 a1_1] 23 (0, 0)) (by (with_reducible repeat first | apply b1 | apply b2 | apply b3); exact BK189.out)) : gb190 ≠ gb189)); clear BK188; clear BK189; clear HB; have BK188 := n0_; have BK189 := n1_; have HB := n2_; have BK190 := n3_; have GW190 := n4_; have GE190 := n5_; have NB188_190 := n6_; have NB190_188 := n7_; have NB189_190 := n8_; have NB190_189 := n9_; clear n0_ n1_ n2_ n3_ n4_ n5_ n6_ n7_ n8_ n9_; clear hb hbox hg) | ((with_reducible refine gate_callee (f := 10) rfl ?_); refine goesL_ (some 27) rfl rfl Tryd.func10 (by kernel_rfl) rfl #[] rfl (by (try simp only [List.map_toArray, List.map_cons, List.map_nil]); first | done | rfl | (simp only [List.length_drop, List.length_take]; rfl)) ?_; (with_reducible refine (assessorlaw46_awake.calls k  true _ ?side1 A4.out).mono ?_); (case side1 => exact Tab.below hT_ (by repeat (first | (with_reducible first | exact HB.out | apply b4 | apply b5 | apply b6 | refine below_set ?_ GE188.out | refine below_set ?_ GE189.out | refine below_set ?_ GE190.out) | exact HB.out))); rintro e w14 ⟨rfl, hb⟩; refine ⟨_, rfl, ?_⟩; have n0_ := Aside0.mk (blk_below (g := gb188) (o := .cells #[.int .i64 a0_0, .int .i64 a0_1] 23 (0, 0)) (by (with_reducible repeat first | apply b1 | apply b2 | apply b3); exact BK188.out) hb); have n1_ := Aside0.mk (blk_below (g := gb189) (o := .cells #[.int .i64 a1_0, .int .i64 a1_1] 23 (0, 0)) (by (with_reducible repeat first | apply b1 | apply b2 | apply b3); exact BK189.out) hb); have n2_ := Aside0.mk (blk_below (g := gb190) (o := .cells #[.int .i64 a2_0, .int .i64 a2_1] 23 (0, 0)) (by (with_reducible repeat first | apply b1 | apply b2 | apply b3); exact BK190.out) hb); have n3_ := Aside0.mk (below_step (by repeat (first | (with_reducible first | exact HB.out | apply b4 | apply b5 | apply b6 | refine below_set ?_ GE188.out | refine below_set ?_ GE189.out | refine below_set ?_ GE190.out) | exact HB.out)) hb); clear BK188; clear BK189; clear BK190; clear HB; have BK188 := n0_; have BK189 := n1_; have BK190 := n2_; have HB := n3_; clear n0_ n1_ n2_ n3_; (try clear hb); (try clear hb2); (try clear hk); (try clear hi); have hnb15 := NB188_189.out; have hnc15 := NB189_188.out; have hnb16 := NB188_190.out; have hnc16 := NB190_188.out; have hcz17_0 : w14.cell? ⟨gb188, 0, none⟩ = some (.int .i64 a0_0) := (blk_cell BK188.out 0).trans rfl; have hcz17_1 : w14.cell? ⟨gb188, 1, none⟩ = some (.int .i64 a0_1) := (blk_cell BK188.out 1).trans rfl; have hfz17_0 := blk_frozen BK188.out 0; have hfz17_1 := blk_frozen BK188.out 1; have hnb18 := NB189_190.out; have hnc18 := NB190_189.out; have hcz19_0 : w14.cell? ⟨gb189, 0, none⟩ = some (.int .i64 a1_0) := (blk_cell BK189.out 0).trans rfl; have hcz19_1 : w14.cell? ⟨gb189, 1, none⟩ = some (.int .i64 a1_1) := (blk_cell BK189.out 1).trans rfl; have hfz19_0 := blk_frozen BK189.out 0; have hfz19_1 := blk_frozen BK189.out 1) | ((with_reducible refine gate_callee (f := 21) rfl ?_); refine goesL_ (some 32) rfl rfl Tryd.func21 (by kernel_rfl) rfl #[.agg #[.int .i64 a0_0, .int .i64 a0_1], .agg #[.int .i64 a1_0, .int .i64 a1_1]] rfl (by (try simp only [List.map_toArray, List.map_cons, List.map_nil]); first | done | rfl | (simp only [List.length_drop, List.length_take]; rfl)) ?_; (with_reducible refine (fraction_Add.calls k a0_0 a0_1 a1_0 a1_1 t192 t193 t194 _ A6.out).mono ?_); rintro e w20 ⟨rfl, hb⟩; refine ⟨_, rfl, ?_⟩; have n0_ := Aside0.mk (blk_below (g := gb188) (o := .cells #[.int .i64 a0_0, .int .i64 a0_1] 23 (0, 0)) (by (with_reducible repeat first | apply b1 | apply b2 | apply b3); exact BK188.out) hb); have n1_ := Aside0.mk (blk_below (g := gb189) (o := .cells #[.int .i64 a1_0, .int .i64 a1_1] 23 (0, 0)) (by (with_reducible repeat first | apply b1 | apply b2 | apply b3); exact BK189.out) hb); have n2_ := Aside0.mk (blk_below (g := gb190) (o := .cells #[.int .i64 a2_0, .int .i64 a2_1] 23 (0, 0)) (by (with_reducible repeat first | apply b1 | apply b2 | apply b3); exact BK190.out) hb); have n3_ := Aside0.mk (below_step (by repeat (first | (with_reducible first | exact HB.out | apply b4 | apply b5 | apply b6 | refine below_set ?_ GE188.out | refine below_set ?_ GE189.out | refine below_set ?_ GE190.out) | exact HB.out)) hb); clear BK188; clear BK189; clear BK190; clear HB; have BK188 := n0_; have BK189 := n1_; have BK190 := n2_; have HB := n3_; clear n0_ n1_ n2_ n3_; (try clear hb); (try clear hb2); (try clear hk); (try clear hi)) | ((with_reducible refine gate_dst (N := 7) rfl ?_); refine box_event ?hg (N := 7) ?hd (cs := #[.int .i64 0, .int .i64 0]) (t := 23) ?hr ?_; (case hd => rfl); (case hg => rfl); (case hr => first | (go_simp; done) | (go_simp; rfl)); intro gb195 hg w21 hbox hb; have n0_ := Aside0.mk (blk_below (g := gb188) (o := .cells #[.int .i64 a0_0, .int .i64 a0_1] 23 (0, 0)) (by (with_reducible repeat first | apply b1 | apply b2 | apply b3); exact BK188.out) hb); have n1_ := Aside0.mk (blk_below (g := gb189) (o := .cells #[.int .i64 a1_0, .int .i64 a1_1] 23 (0, 0)) (by (with_reducible repeat first | apply b1 | apply b2 | apply b3); exact BK189.out) hb); have n2_ := Aside0.mk (blk_below (g := gb190) (o := .cells #[.int .i64 a2_0, .int .i64 a2_1] 23 (0, 0)) (by (with_reducible repeat first | apply b1 | apply b2 | apply b3); exact BK190.out) hb); have n3_ := Aside0.mk (below_step (by repeat (first | (with_reducible first | exact HB.out | apply b4 | apply b5 | apply b6 | refine below_set ?_ GE188.out | refine below_set ?_ GE189.out | refine below_set ?_ GE190.out) | exact HB.out)) hb); have n4_ := Aside0.mk (hbox); have n5_ := Aside0.mk ((by rw [hg]; exact (below_size (by repeat (first | (with_reducible first | exact HB.out | apply b4 | apply b5 | apply b6 | refine below_set ?_ GE188.out | refine below_set ?_ GE189.out | refine below_set ?_ GE190.out) | exact HB.out))) : w.heap.size ≤ gb195)); have n6_ := Aside0.mk ((by rw [hg]; exact (below_size (by repeat (first | (with_reducible first | exact HB.out | apply b4 | apply b5 | apply b6 | refine below_set ?_ GE188.out | refine below_set ?_ GE189.out | refine below_set ?_ GE190.out) | exact HB.out))) : w.heap.size ≤ gb195)); have n7_ := Aside0.mk ((by rw [hg]; exact Nat.ne_of_lt (blk_lt (g := gb188) (o := .cells #[.int .i64 a0_0, .int .i64 a0_1] 23 (0, 0)) (by (with_reducible repeat first | apply b1 | apply b2 | apply b3); exact BK188.out)) : gb188 ≠ gb195)); have n8_ := Aside0.mk ((by rw [hg]; exact Nat.ne_of_gt (blk_lt (g := gb188) (o := .cells #[.int .i64 a0_0, .int .i64 a0_1] 23 (0, 0)) (by (with_reducible repeat first | apply b1 | apply b2 | apply b3); exact BK188.out)) : gb195 ≠ gb188)); have n9_ := Aside0.mk ((by rw [hg]; exact Nat.ne_of_lt (blk_lt (g := gb189) (o := .cells #[.int .i64 a1_0, .int .i64 a1_1] 23 (0, 0)) (by (with_reducible repeat first | apply b1 | apply b2 | apply b3); exact BK189.out)) : gb189 ≠ gb195)); have n10_ := Aside0.mk ((by rw [hg]; exact Nat.ne_of_gt (blk_lt (g := gb189) (o := .cells #[.int .i64 a1_0, .int .i64 a1_1] 23 (0, 0)) (by (with_reducible repeat first | apply b1 | apply b2 | apply b3); exact BK189.out)) : gb195 ≠ gb189)); have n11_ := Aside0.mk ((by rw [hg]; exact Nat.ne_of_lt (blk_lt (g := gb190) (o := .cells #[.int .i64 a2_0, .int .i64 a2_1] 23 (0, 0)) (by (with_reducible repeat first | apply b1 | apply b2 | apply b3); exact BK190.out)) : gb190 ≠ gb195)); have n12_ := Aside0.mk ((by rw [hg]; exact Nat.ne_of_gt (blk_lt (g := gb190) (o := .cells #[.int .i64 a2_0, .int .i64 a2_1] 23 (0, 0)) (by (with_reducible repeat first | apply b1 | apply b2 | apply b3); exact BK190.out)) : gb195 ≠ gb190)); clear BK188; clear BK189; clear BK190; clear HB; have BK188 := n0_; have BK189 := n1_; have BK190 := n2_; have HB := n3_; have BK195 := n4_; have GW195 := n5_; have GE195 := n6_; have NB188_195 := n7_; have NB195_188 := n8_; have NB189_195 := n9_; have NB195_189 := n10_; have NB190_195 := n11_; have NB195_190 := n12_; clear n0_ n1_ n2_ n3_ n4_ n5_ n6_ n7_ n8_ n9_ n10_ n11_ n12_; clear hb hbox hg; have hnb22 := NB195_188.out; have hnc22 := NB188_195.out; have hnb23 := NB195_189.out; have hnc23 := NB189_195.out; have hnb24 := NB195_190.out; have hnc24 := NB190_195.out; have hcz25_0 : w21.cell? ⟨gb195, 0, none⟩ = some (.int .i64 0) := (blk_cell BK195.out 0).trans rfl; have hcz25_1 : w21.cell? ⟨gb195, 1, none⟩ = some (.int .i64 0) := (blk_cell BK195.out 1).trans rfl; have hfz25_0 := blk_frozen BK195.out 0; have hfz25_1 := blk_frozen BK195.out 1; have hcz26_0 : w21.cell? ⟨gb189, 0, none⟩ = some (.int .i64 a1_0) := (blk_cell BK189.out 0).trans rfl; have hcz26_1 : w21.cell? ⟨gb189, 1, none⟩ = some (.int .i64 a1_1) := (blk_cell BK189.out 1).trans rfl; have hfz26_0 := blk_frozen BK189.out 0; have hfz26_1 := blk_frozen BK189.out 1; have hcz27_0 : w21.cell? ⟨gb188, 0, none⟩ = some (.int .i64 a0_0) := (blk_cell BK188.out 0).trans rfl; have hcz27_1 : w21.cell? ⟨gb188, 1, none⟩ = some (.int .i64 a0_1) := (blk_cell BK188.out 1).trans rfl; have hfz27_0 := blk_frozen BK188.out 0; have hfz27_1 := blk_frozen BK188.out 1) | ((with_reducible refine gate_callee (f := 21) rfl ?_); refine goesL_ (some 38) rfl rfl Tryd.func21 (by kernel_rfl) rfl #[.agg #[.int .i64 a1_0, .int .i64 a1_1], .agg #[.int .i64 a0_0, .int .i64 a0_1]] rfl (by (try simp only [List.map_toArray, List.map_cons, List.map_nil]); first | done | rfl | (simp only [List.length_drop, List.length_take]; rfl)) ?_; (with_reducible refine (fraction_Add.calls k a1_0 a1_1 a0_0 a0_1 t196 t197 t198 _ A7.out).mono ?_); rintro e w28 ⟨rfl, hb⟩; refine ⟨_, rfl, ?_⟩; have n0_ := Aside0.mk (blk_below (g := gb188) (o := .cells #[.int .i64 a0_0, .int .i64 a0_1] 23 (0, 0)) (by (with_reducible repeat first | apply b1 | apply b2 | apply b3); refine blk_far ?_ NB188_195.out _; (with_reducible repeat first | apply b1 | apply b2 | apply b3); refine blk_far ?_ NB188_195.out _; (with_reducible repeat first | apply b1 | apply b2 | apply b3); exact BK188.out) hb); have n1_ := Aside0.mk (blk_below (g := gb189) (o := .cells #[.int .i64 a1_0, .int .i64 a1_1] 23 (0, 0)) (by (with_reducible repeat first | apply b1 | apply b2 | apply b3); refine blk_far ?_ NB189_195.out _; (with_reducible repeat first | apply b1 | apply b2 | apply b3); refine blk_far ?_ NB189_195.out _; (with_reducible repeat first | apply b1 | apply b2 | apply b3); exact BK189.out) hb); have n2_ := Aside0.mk (blk_below (g := gb190) (o := .cells #[.int .i64 a2_0, .int .i64 a2_1] 23 (0, 0)) (by (with_reducible repeat first | apply b1 | apply b2 | apply b3); refine blk_far ?_ NB190_195.out _; (with_reducible repeat first | apply b1 | apply b2 | apply b3); refine blk_far ?_ NB190_195.out _; (with_reducible repeat first | apply b1 | apply b2 | apply b3); exact BK190.out) hb); have n3_ := Aside0.mk (blk_below (g := gb195) (o := .cells #[.int .i64 t192, .int .i64 t193] 23 (0, 0)) (by (with_reducible repeat first | apply b1 | apply b2 | apply b3); refine blk_put (cs := #[.int .i64 t192, .int .i64 0]) ?_ 1 _ rfl; (with_reducible repeat first | apply b1 | apply b2 | apply b3); refine blk_put (cs := #[.int .i64 0, .int .i64 0]) ?_ 0 _ rfl; (with_reducible repeat first | apply b1 | apply b2 | apply b3); exact BK195.out) hb); have n4_ := Aside0.mk (below_step (by repeat (first | (with_reducible first | exact HB.out | apply b4 | apply b5 | apply b6 | refine below_set ?_ GE188.out | refine below_set ?_ GE189.out | refine below_set ?_ GE190.out | refine below_set ?_ GE195.out) | exact HB.out)) hb); clear BK188; clear BK189; clear BK190; clear BK195; clear HB; have BK188 := n0_; have BK189 := n1_; have BK190 := n2_; have BK195 := n3_; have HB := n4_; clear n0_ n1_ n2_ n3_ n4_; (try clear hb); (try clear hb2); (try clear hk); (try clear hi)) | ((with_reducible refine gate_dst (N := 9) rfl ?_); refine box_event ?hg (N := 9) ?hd (cs := #[.int .i64 0, .int .i64 0]) (t := 23) ?hr ?_; (case hd => rfl); (case hg => rfl); (case hr => first | (go_simp; done) | (go_simp; rfl)); intro gb199 hg w29 hbox hb; have n0_ := Aside0.mk (blk_below (g := gb188) (o := .cells #[.int .i64 a0_0, .int .i64 a0_1] 23 (0, 0)) (by (with_reducible repeat first | apply b1 | apply b2 | apply b3); exact BK188.out) hb); have n1_ := Aside0.mk (blk_below (g := gb189) (o := .cells #[.int .i64 a1_0, .int .i64 a1_1] 23 (0, 0)) (by (with_reducible repeat first | apply b1 | apply b2 | apply b3); exact BK189.out) hb); have n2_ := Aside0.mk (blk_below (g := gb190) (o := .cells #[.int .i64 a2_0, .int .i64 a2_1] 23 (0, 0)) (by (with_reducible repeat first | apply b1 | apply b2 | apply b3); exact BK190.out) hb); have n3_ := Aside0.mk (blk_below (g := gb195) (o := .cells #[.int .i64 t192, .int .i64 t193] 23 (0, 0)) (by (with_reducible repeat first | apply b1 | apply b2 | apply b3); exact BK195.out) hb); have n4_ := Aside0.mk (below_step (by repeat (first | (with_reducible first | exact HB.out | apply b4 | apply b5 | apply b6 | refine below_set ?_ GE188.out | refine below_set ?_ GE189.out | refine below_set ?_ GE190.out | refine below_set ?_ GE195.out) | exact HB.out)) hb); have n5_ := Aside0.mk (hbox); have n6_ := Aside0.mk ((by rw [hg]; exact (below_size (by repeat (first | (with_reducible first | exact HB.out | apply b4 | apply b5 | apply b6 | refine below_set ?_ GE188.out | refine below_set ?_ GE189.out | refine below_set ?_ GE190.out | refine below_set ?_ GE195.out) | exact HB.out))) : w.heap.size ≤ gb199)); have n7_ := Aside0.mk ((by rw [hg]; exact (below_size (by repeat (first | (with_reducible first | exact HB.out | apply b4 | apply b5 | apply b6 | refine below_set ?_ GE188.out | refine below_set ?_ GE189.out | refine below_set ?_ GE190.out | refine below_set ?_ GE195.out) | exact HB.out))) : w.heap.size ≤ gb199)); have n8_ := Aside0.mk ((by rw [hg]; exact Nat.ne_of_lt (blk_lt (g := gb188) (o := .cells #[.int .i64 a0_0, .int .i64 a0_1] 23 (0, 0)) (by (with_reducible repeat first | apply b1 | apply b2 | apply b3); exact BK188.out)) : gb188 ≠ gb199)); have n9_ := Aside0.mk ((by rw [hg]; exact Nat.ne_of_gt (blk_lt (g := gb188) (o := .cells #[.int .i64 a0_0, .int .i64 a0_1] 23 (0, 0)) (by (with_reducible repeat first | apply b1 | apply b2 | apply b3); exact BK188.out)) : gb199 ≠ gb188)); have n10_ := Aside0.mk ((by rw [hg]; exact Nat.ne_of_lt (blk_lt (g := gb189) (o := .cells #[.int .i64 a1_0, .int .i64 a1_1] 23 (0, 0)) (by (with_reducible repeat first | apply b1 | apply b2 | apply b3); exact BK189.out)) : gb189 ≠ gb199)); have n11_ := Aside0.mk ((by rw [hg]; exact Nat.ne_of_gt (blk_lt (g := gb189) (o := .cells #[.int .i64 a1_0, .int .i64 a1_1] 23 (0, 0)) (by (with_reducible repeat first | apply b1 | apply b2 | apply b3); exact BK189.out)) : gb199 ≠ gb189)); have n12_ := Aside0.mk ((by rw [hg]; exact Nat.ne_of_lt (blk_lt (g := gb190) (o := .cells #[.int .i64 a2_0, .int .i64 a2_1] 23 (0, 0)) (by (with_reducible repeat first | apply b1 | apply b2 | apply b3); exact BK190.out)) : gb190 ≠ gb199)); have n13_ := Aside0.mk ((by rw [hg]; exact Nat.ne_of_gt (blk_lt (g := gb190) (o := .cells #[.int .i64 a2_0, .int .i64 a2_1] 23 (0, 0)) (by (with_reducible repeat first | apply b1 | apply b2 | apply b3); exact BK190.out)) : gb199 ≠ gb190)); have n14_ := Aside0.mk ((by rw [hg]; exact Nat.ne_of_lt (blk_lt (g := gb195) (o := .cells #[.int .i64 t192, .int .i64 t193] 23 (0, 0)) (by (with_reducible repeat first | apply b1 | apply b2 | apply b3); exact BK195.out)) : gb195 ≠ gb199)); have n15_ := Aside0.mk ((by rw [hg]; exact Nat.ne_of_gt (blk_lt (g := gb195) (o := .cells #[.int .i64 t192, .int .i64 t193] 23 (0, 0)) (by (with_reducible repeat first | apply b1 | apply b2 | apply b3); exact BK195.out)) : gb199 ≠ gb195)); clear BK188; clear BK189; clear BK190; clear BK195; clear HB; have BK188 := n0_; have BK189 := n1_; have BK190 := n2_; have BK195 := n3_; have HB := n4_; have BK199 := n5_; have GW199 := n6_; have GE199 := n7_; have NB188_199 := n8_; have NB199_188 := n9_; have NB189_199 := n10_; have NB199_189 := n11_; have NB190_199 := n12_; have NB199_190 := n13_; have NB195_199 := n14_; have NB199_195 := n15_; clear n0_ n1_ n2_ n3_ n4_ n5_ n6_ n7_ n8_ n9_ n10_ n11_ n12_ n13_ n14_ n15_; clear hb hbox hg; have hnb30 := NB199_188.out; have hnc30 := NB188_199.out; have hnb31 := NB199_189.out; have hnc31 := NB189_199.out; have hnb32 := NB199_190.out; have hnc32 := NB190_199.out; have hnb33 := NB199_195.out; have hnc33 := NB195_199.out; have hcz34_0 : w29.cell? ⟨gb199, 0, none⟩ = some (.int .i64 0) := (blk_cell BK199.out 0).trans rfl; have hcz34_1 : w29.cell? ⟨gb199, 1, none⟩ = some (.int .i64 0) := (blk_cell BK199.out 1).trans rfl; have hfz34_0 := blk_frozen BK199.out 0; have hfz34_1 := blk_frozen BK199.out 1; have hcz35_0 : w29.cell? ⟨gb188, 0, none⟩ = some (.int .i64 a0_0) := (blk_cell BK188.out 0).trans rfl; have hcz35_1 : w29.cell? ⟨gb188, 1, none⟩ = some (.int .i64 a0_1) := (blk_cell BK188.out 1).trans rfl; have hfz35_0 := blk_frozen BK188.out 0; have hfz35_1 := blk_frozen BK188.out 1; have hcz36_0 : w29.cell? ⟨gb189, 0, none⟩ = some (.int .i64 a1_0) := (blk_cell BK189.out 0).trans rfl; have hcz36_1 : w29.cell? ⟨gb189, 1, none⟩ = some (.int .i64 a1_1) := (blk_cell BK189.out 1).trans rfl; have hfz36_0 := blk_frozen BK189.out 0; have hfz36_1 := blk_frozen BK189.out 1) | ((with_reducible refine gate_callee (f := 22) rfl ?_); refine goesL_ (some 44) rfl rfl Tryd.func22 (by kernel_rfl) rfl #[.agg #[.int .i64 a0_0, .int .i64 a0_1], .agg #[.int .i64 a1_0, .int .i64 a1_1]] rfl (by (try simp only [List.map_toArray, List.map_cons, List.map_nil]); first | done | rfl | (simp only [List.length_drop, List.length_take]; rfl)) ?_; (with_reducible refine (fraction_Mul.calls k a0_0 a0_1 a1_0 a1_1 t200 t201 t202 _ A8.out).mono ?_); rintro e w37 ⟨rfl, hb⟩; refine ⟨_, rfl, ?_⟩; have n0_ := Aside0.mk (blk_below (g := gb188) (o := .cells #[.int .i64 a0_0, .int .i64 a0_1] 23 (0, 0)) (by (with_reducible repeat first | apply b1 | apply b2 | apply b3); refine blk_far ?_ NB188_199.out _; (with_reducible repeat first | apply b1 | apply b2 | apply b3); refine blk_far ?_ NB188_199.out _; (with_reducible repeat first | apply b1 | apply b2 | apply b3); exact BK188.out) hb); have n1_ := Aside0.mk (blk_below (g := gb189) (o := .cells #[.int .i64 a1_0, .int .i64 a1_1] 23 (0, 0)) (by (with_reducible repeat first | apply b1 | apply b2 | apply b3); refine blk_far ?_ NB189_199.out _; (with_reducible repeat first | apply b1 | apply b2 | apply b3); refine blk_far ?_ NB189_199.out _; (with_reducible repeat first | apply b1 | apply b2 | apply b3); exact BK189.out) hb); have n2_ := Aside0.mk (blk_below (g := gb190) (o := .cells #[.int .i64 a2_0, .int .i64 a2_1] 23 (0, 0)) (by (with_reducible repeat first | apply b1 | apply b2 | apply b3); refine blk_far ?_ NB190_199.out _; (with_reducible repeat first | apply b1 | apply b2 | apply b3); refine blk_far ?_ NB190_199.out _; (with_reducible repeat first | apply b1 | apply b2 | apply b3); exact BK190.out) hb); have n3_ := Aside0.mk (blk_below (g := gb195) (o := .cells #[.int .i64 t192, .int .i64 t193] 23 (0, 0)) (by (with_reducible repeat first | apply b1 | apply b2 | apply b3); refine blk_far ?_ NB195_199.out _; (with_reducible repeat first | apply b1 | apply b2 | apply b3); refine blk_far ?_ NB195_199.out _; (with_reducible repeat first | apply b1 | apply b2 | apply b3); exact BK195.out) hb); have n4_ := Aside0.mk (blk_below (g := gb199) (o := .cells #[.int .i64 t196, .int .i64 t197] 23 (0, 0)) (by (with_reducible repeat first | apply b1 | apply b2 | apply b3); refine blk_put (cs := #[.int .i64 t196, .int .i64 0]) ?_ 1 _ rfl; (with_reducible repeat first | apply b1 | apply b2 | apply b3); refine blk_put (cs := #[.int .i64 0, .int .i64 0]) ?_ 0 _ rfl; (with_reducible repeat first | apply b1 | apply b2 | apply b3); exact BK199.out) hb); have n5_ := Aside0.mk (below_step (by repeat (first | (with_reducible first | exact HB.out | apply b4 | apply b5 | apply b6 | refine below_set ?_ GE188.out | refine below_set ?_ GE189.out | refine below_set ?_ GE190.out | refine below_set ?_ GE195.out | refine below_set ?_ GE199.out) | exact HB.out)) hb); clear BK188; clear BK189; clear BK190; clear BK195; clear BK199; clear HB; have BK188 := n0_; have BK189 := n1_; have BK190 := n2_; have BK195 := n3_; have BK199 := n4_; have HB := n5_; clear n0_ n1_ n2_ n3_ n4_ n5_; (try clear hb); (try clear hb2); (try clear hk); (try clear hi)) | ((with_reducible refine gate_dst (N := 11) rfl ?_); refine box_event ?hg (N := 11) ?hd (cs := #[.int .i64 0, .int .i64 0]) (t := 23) ?hr ?_; (case hd => rfl); (case hg => rfl); (case hr => first | (go_simp; done) | (go_simp; rfl)); intro gb203 hg w38 hbox hb; have n0_ := Aside0.mk (blk_below (g := gb188) (o := .cells #[.int .i64 a0_0, .int .i64 a0_1] 23 (0, 0)) (by (with_reducible repeat first | apply b1 | apply b2 | apply b3); exact BK188.out) hb); have n1_ := Aside0.mk (blk_below (g := gb189) (o := .cells #[.int .i64 a1_0, .int .i64 a1_1] 23 (0, 0)) (by (with_reducible repeat first | apply b1 | apply b2 | apply b3); exact BK189.out) hb); have n2_ := Aside0.mk (blk_below (g := gb190) (o := .cells #[.int .i64 a2_0, .int .i64 a2_1] 23 (0, 0)) (by (with_reducible repeat first | apply b1 | apply b2 | apply b3); exact BK190.out) hb); have n3_ := Aside0.mk (blk_below (g := gb195) (o := .cells #[.int .i64 t192, .int .i64 t193] 23 (0, 0)) (by (with_reducible repeat first | apply b1 | apply b2 | apply b3); exact BK195.out) hb); have n4_ := Aside0.mk (blk_below (g := gb199) (o := .cells #[.int .i64 t196, .int .i64 t197] 23 (0, 0)) (by (with_reducible repeat first | apply b1 | apply b2 | apply b3); exact BK199.out) hb); have n5_ := Aside0.mk (below_step (by repeat (first | (with_reducible first | exact HB.out | apply b4 | apply b5 | apply b6 | refine below_set ?_ GE188.out | refine below_set ?_ GE189.out | refine below_set ?_ GE190.out | refine below_set ?_ GE195.out | refine below_set ?_ GE199.out) | exact HB.out)) hb); have n6_ := Aside0.mk (hbox); have n7_ := Aside0.mk ((by rw [hg]; exact (below_size (by repeat (first | (with_reducible first | exact HB.out | apply b4 | apply b5 | apply b6 | refine below_set ?_ GE188.out | refine below_set ?_ GE189.out | refine below_set ?_ GE190.out | refine below_set ?_ GE195.out | refine below_set ?_ GE199.out) | exact HB.out))) : w.heap.size ≤ gb203)); have n8_ := Aside0.mk ((by rw [hg]; exact (below_size (by repeat (first | (with_reducible first | exact HB.out | apply b4 | apply b5 | apply b6 | refine below_set ?_ GE188.out | refine below_set ?_ GE189.out | refine below_set ?_ GE190.out | refine below_set ?_ GE195.out | refine below_set ?_ GE199.out) | exact HB.out))) : w.heap.size ≤ gb203)); have n9_ := Aside0.mk ((by rw [hg]; exact Nat.ne_of_lt (blk_lt (g := gb188) (o := .cells #[.int .i64 a0_0, .int .i64 a0_1] 23 (0, 0)) (by (with_reducible repeat first | apply b1 | apply b2 | apply b3); exact BK188.out)) : gb188 ≠ gb203)); have n10_ := Aside0.mk ((by rw [hg]; exact Nat.ne_of_gt (blk_lt (g := gb188) (o := .cells #[.int .i64 a0_0, .int .i64 a0_1] 23 (0, 0)) (by (with_reducible repeat first | apply b1 | apply b2 | apply b3); exact BK188.out)) : gb203 ≠ gb188)); have n11_ := Aside0.mk ((by rw [hg]; exact Nat.ne_of_lt (blk_lt (g := gb189) (o := .cells #[.int .i64 a1_0, .int .i64 a1_1] 23 (0, 0)) (by (with_reducible repeat first | apply b1 | apply b2 | apply b3); exact BK189.out)) : gb189 ≠ gb203)); have n12_ := Aside0.mk ((by rw [hg]; exact Nat.ne_of_gt (blk_lt (g := gb189) (o := .cells #[.int .i64 a1_0, .int .i64 a1_1] 23 (0, 0)) (by (with_reducible repeat first | apply b1 | apply b2 | apply b3); exact BK189.out)) : gb203 ≠ gb189)); have n13_ := Aside0.mk ((by rw [hg]; exact Nat.ne_of_lt (blk_lt (g := gb190) (o := .cells #[.int .i64 a2_0, .int .i64 a2_1] 23 (0, 0)) (by (with_reducible repeat first | apply b1 | apply b2 | apply b3); exact BK190.out)) : gb190 ≠ gb203)); have n14_ := Aside0.mk ((by rw [hg]; exact Nat.ne_of_gt (blk_lt (g := gb190) (o := .cells #[.int .i64 a2_0, .int .i64 a2_1] 23 (0, 0)) (by (with_reducible repeat first | apply b1 | apply b2 | apply b3); exact BK190.out)) : gb203 ≠ gb190)); have n15_ := Aside0.mk ((by rw [hg]; exact Nat.ne_of_lt (blk_lt (g := gb195) (o := .cells #[.int .i64 t192, .int .i64 t193] 23 (0, 0)) (by (with_reducible repeat first | apply b1 | apply b2 | apply b3); exact BK195.out)) : gb195 ≠ gb203)); have n16_ := Aside0.mk ((by rw [hg]; exact Nat.ne_of_gt (blk_lt (g := gb195) (o := .cells #[.int .i64 t192, .int .i64 t193] 23 (0, 0)) (by (with_reducible repeat first | apply b1 | apply b2 | apply b3); exact BK195.out)) : gb203 ≠ gb195)); have n17_ := Aside0.mk ((by rw [hg]; exact Nat.ne_of_lt (blk_lt (g := gb199) (o := .cells #[.int .i64 t196, .int .i64 t197] 23 (0, 0)) (by (with_reducible repeat first | apply b1 | apply b2 | apply b3); exact BK199.out)) : gb199 ≠ gb203)); have n18_ := Aside0.mk ((by rw [hg]; exact Nat.ne_of_gt (blk_lt (g := gb199) (o := .cells #[.int .i64 t196, .int .i64 t197] 23 (0, 0)) (by (with_reducible repeat first | apply b1 | apply b2 | apply b3); exact BK199.out)) : gb203 ≠ gb199)); clear BK188; clear BK189; clear BK190; clear BK195; clear BK199; clear HB; have BK188 := n0_; have BK189 := n1_; have BK190 := n2_; have BK195 := n3_; have BK199 := n4_; have HB := n5_; have BK203 := n6_; have GW203 := n7_; have GE203 := n8_; have NB188_203 := n9_; have NB203_188 := n10_; have NB189_203 := n11_; have NB203_189 := n12_; have NB190_203 := n13_; have NB203_190 := n14_; have NB195_203 := n15_; have NB203_195 := n16_; have NB199_203 := n17_; have NB203_199 := n18_; clear n0_ n1_ n2_ n3_ n4_ n5_ n6_ n7_ n8_ n9_ n10_ n11_ n12_ n13_ n14_ n15_ n16_ n17_ n18_; clear hb hbox hg; have hnb39 := NB203_188.out; have hnc39 := NB188_203.out; have hnb40 := NB203_189.out; have hnc40 := NB189_203.out; have hnb41 := NB203_190.out; have hnc41 := NB190_203.out; have hnb42 := NB203_195.out; have hnc42 := NB195_203.out; have hnb43 := NB203_199.out; have hnc43 := NB199_203.out; have hcz44_0 : w38.cell? ⟨gb203, 0, none⟩ = some (.int .i64 0) := (blk_cell BK203.out 0).trans rfl; have hcz44_1 : w38.cell? ⟨gb203, 1, none⟩ = some (.int .i64 0) := (blk_cell BK203.out 1).trans rfl; have hfz44_0 := blk_frozen BK203.out 0; have hfz44_1 := blk_frozen BK203.out 1; have hcz45_0 : w38.cell? ⟨gb189, 0, none⟩ = some (.int .i64 a1_0) := (blk_cell BK189.out 0).trans rfl; have hcz45_1 : w38.cell? ⟨gb189, 1, none⟩ = some (.int .i64 a1_1) := (blk_cell BK189.out 1).trans rfl; have hfz45_0 := blk_frozen BK189.out 0; have hfz45_1 := blk_frozen BK189.out 1; have hcz46_0 : w38.cell? ⟨gb188, 0, none⟩ = some (.int .i64 a0_0) := (blk_cell BK188.out 0).trans rfl; have hcz46_1 : w38.cell? ⟨gb188, 1, none⟩ = some (.int .i64 a0_1) := (blk_cell BK188.out 1).trans rfl; have hfz46_0 := blk_frozen BK188.out 0; have hfz46_1 := blk_frozen BK188.out 1) | ((with_reducible refine gate_callee (f := 22) rfl ?_); refine goesL_ (some 50) rfl rfl Tryd.func22 (by kernel_rfl) rfl #[.agg #[.int .i64 a1_0, .int .i64 a1_1], .agg #[.int .i64 a0_0, .int .i64 a0_1]] rfl (by (try simp only [List.map_toArray, List.map_cons, List.map_nil]); first | done | rfl | (simp only [List.length_drop, List.length_take]; rfl)) ?_; (with_reducible refine (fraction_Mul.calls k a1_0 a1_1 a0_0 a0_1 t204 t205 t206 _ A9.out).mono ?_); rintro e w47 ⟨rfl, hb⟩; refine ⟨_, rfl, ?_⟩; have n0_ := Aside0.mk (blk_below (g := gb188) (o := .cells #[.int .i64 a0_0, .int .i64 a0_1] 23 (0, 0)) (by (with_reducible repeat first | apply b1 | apply b2 | apply b3); refine blk_far ?_ NB188_203.out _; (with_reducible repeat first | apply b1 | apply b2 | apply b3); refine blk_far ?_ NB188_203.out _; (with_reducible repeat first | apply b1 | apply b2 | apply b3); exact BK188.out) hb); have n1_ := Aside0.mk (blk_below (g := gb189) (o := .cells #[.int .i64 a1_0, .int .i64 a1_1] 23 (0, 0)) (by (with_reducible repeat first | apply b1 | apply b2 | apply b3); refine blk_far ?_ NB189_203.out _; (with_reducible repeat first | apply b1 | apply b2 | apply b3); refine blk_far ?_ NB189_203.out _; (with_reducible repeat first | apply b1 | apply b2 | apply b3); exact BK189.out) hb); have n2_ := Aside0.mk (blk_below (g := gb190) (o := .cells #[.int .i64 a2_0, .int .i64 a2_1] 23 (0, 0)) (by (with_reducible repeat first | apply b1 | apply b2 | apply b3); refine blk_far ?_ NB190_203.out _; (with_reducible repeat first | apply b1 | apply b2 | apply b3); refine blk_far ?_ NB190_203.out _; (with_reducible repeat first | apply b1 | apply b2 | apply b3); exact BK190.out) hb); have n3_ := Aside0.mk (blk_below (g := gb195) (o := .cells #[.int .i64 t192, .int .i64 t193] 23 (0, 0)) (by (with_reducible repeat first | apply b1 | apply b2 | apply b3); refine blk_far ?_ NB195_203.out _; (with_reducible repeat first | apply b1 | apply b2 | apply b3); refine blk_far ?_ NB195_203.out _; (with_reducible repeat first | apply b1 | apply b2 | apply b3); exact BK195.out) hb); have n4_ := Aside0.mk (blk_below (g := gb199) (o := .cells #[.int .i64 t196, .int .i64 t197] 23 (0, 0)) (by (with_reducible repeat first | apply b1 | apply b2 | apply b3); refine blk_far ?_ NB199_203.out _; (with_reducible repeat first | apply b1 | apply b2 | apply b3); refine blk_far ?_ NB199_203.out _; (with_reducible repeat first | apply b1 | apply b2 | apply b3); exact BK199.out) hb); have n5_ := Aside0.mk (blk_below (g := gb203) (o := .cells #[.int .i64 t200, .int .i64 t201] 23 (0, 0)) (by (with_reducible repeat first | apply b1 | apply b2 | apply b3); refine blk_put (cs := #[.int .i64 t200, .int .i64 0]) ?_ 1 _ rfl; (with_reducible repeat first | apply b1 | apply b2 | apply b3); refine blk_put (cs := #[.int .i64 0, .int .i64 0]) ?_ 0 _ rfl; (with_reducible repeat first | apply b1 | apply b2 | apply b3); exact BK203.out) hb); have n6_ := Aside0.mk (below_step (by repeat (first | (with_reducible first | exact HB.out | apply b4 | apply b5 | apply b6 | refine below_set ?_ GE188.out | refine below_set ?_ GE189.out | refine below_set ?_ GE190.out | refine below_set ?_ GE195.out | refine below_set ?_ GE199.out | refine below_set ?_ GE203.out) | exact HB.out)) hb); clear BK188; clear BK189; clear BK190; clear BK195; clear BK199; clear BK203; clear HB; have BK188 := n0_; have BK189 := n1_; have BK190 := n2_; have BK195 := n3_; have BK199 := n4_; have BK203 := n5_; have HB := n6_; clear n0_ n1_ n2_ n3_ n4_ n5_ n6_; (try clear hb); (try clear hb2); (try clear hk); (try clear hi)) | ((with_reducible refine gate_dst (N := 13) rfl ?_); refine box_event ?hg (N := 13) ?hd (cs := #[.int .i64 0, .int .i64 0]) (t := 23) ?hr ?_; (case hd => rfl); (case hg => rfl); (case hr => first | (go_simp; done) | (go_simp; rfl)); intro gb207 hg w48 hbox hb; have n0_ := Aside0.mk (blk_below (g := gb188) (o := .cells #[.int .i64 a0_0, .int .i64 a0_1] 23 (0, 0)) (by (with_reducible repeat first | apply b1 | apply b2 | apply b3); exact BK188.out) hb); have n1_ := Aside0.mk (blk_below (g := gb189) (o := .cells #[.int .i64 a1_0, .int .i64 a1_1] 23 (0, 0)) (by (with_reducible repeat first | apply b1 | apply b2 | apply b3); exact BK189.out) hb); have n2_ := Aside0.mk (blk_below (g := gb190) (o := .cells #[.int .i64 a2_0, .int .i64 a2_1] 23 (0, 0)) (by (with_reducible repeat first | apply b1 | apply b2 | apply b3); exact BK190.out) hb); have n3_ := Aside0.mk (blk_below (g := gb195) (o := .cells #[.int .i64 t192, .int .i64 t193] 23 (0, 0)) (by (with_reducible repeat first | apply b1 | apply b2 | apply b3); exact BK195.out) hb); have n4_ := Aside0.mk (blk_below (g := gb199) (o := .cells #[.int .i64 t196, .int .i64 t197] 23 (0, 0)) (by (with_reducible repeat first | apply b1 | apply b2 | apply b3); exact BK199.out) hb); have n5_ := Aside0.mk (blk_below (g := gb203) (o := .cells #[.int .i64 t200, .int .i64 t201] 23 (0, 0)) (by (with_reducible repeat first | apply b1 | apply b2 | apply b3); exact BK203.out) hb); have n6_ := Aside0.mk (below_step (by repeat (first | (with_reducible first | exact HB.out | apply b4 | apply b5 | apply b6 | refine below_set ?_ GE188.out | refine below_set ?_ GE189.out | refine below_set ?_ GE190.out | refine below_set ?_ GE195.out | refine below_set ?_ GE199.out | refine below_set ?_ GE203.out) | exact HB.out)) hb); have n7_ := Aside0.mk (hbox); have n8_ := Aside0.mk ((by rw [hg]; exact (below_size (by repeat (first | (with_reducible first | exact HB.out | apply b4 | apply b5 | apply b6 | refine below_set ?_ GE188.out | refine below_set ?_ GE189.out | refine below_set ?_ GE190.out | refine below_set ?_ GE195.out | refine below_set ?_ GE199.out | refine below_set ?_ GE203.out) | exact HB.out))) : w.heap.size ≤ gb207)); have n9_ := Aside0.mk ((by rw [hg]; exact (below_size (by repeat (first | (with_reducible first | exact HB.out | apply b4 | apply b5 | apply b6 | refine below_set ?_ GE188.out | refine below_set ?_ GE189.out | refine below_set ?_ GE190.out | refine below_set ?_ GE195.out | refine below_set ?_ GE199.out | refine below_set ?_ GE203.out) | exact HB.out))) : w.heap.size ≤ gb207)); have n10_ := Aside0.mk ((by rw [hg]; exact Nat.ne_of_lt (blk_lt (g := gb188) (o := .cells #[.int .i64 a0_0, .int .i64 a0_1] 23 (0, 0)) (by (with_reducible repeat first | apply b1 | apply b2 | apply b3); exact BK188.out)) : gb188 ≠ gb207)); have n11_ := Aside0.mk ((by rw [hg]; exact Nat.ne_of_gt (blk_lt (g := gb188) (o := .cells #[.int .i64 a0_0, .int .i64 a0_1] 23 (0, 0)) (by (with_reducible repeat first | apply b1 | apply b2 | apply b3); exact BK188.out)) : gb207 ≠ gb188)); have n12_ := Aside0.mk ((by rw [hg]; exact Nat.ne_of_lt (blk_lt (g := gb189) (o := .cells #[.int .i64 a1_0, .int .i64 a1_1] 23 (0, 0)) (by (with_reducible repeat first | apply b1 | apply b2 | apply b3); exact BK189.out)) : gb189 ≠ gb207)); have n13_ := Aside0.mk ((by rw [hg]; exact Nat.ne_of_gt (blk_lt (g := gb189) (o := .cells #[.int .i64 a1_0, .int .i64 a1_1] 23 (0, 0)) (by (with_reducible repeat first | apply b1 | apply b2 | apply b3); exact BK189.out)) : gb207 ≠ gb189)); have n14_ := Aside0.mk ((by rw [hg]; exact Nat.ne_of_lt (blk_lt (g := gb190) (o := .cells #[.int .i64 a2_0, .int .i64 a2_1] 23 (0, 0)) (by (with_reducible repeat first | apply b1 | apply b2 | apply b3); exact BK190.out)) : gb190 ≠ gb207)); have n15_ := Aside0.mk ((by rw [hg]; exact Nat.ne_of_gt (blk_lt (g := gb190) (o := .cells #[.int .i64 a2_0, .int .i64 a2_1] 23 (0, 0)) (by (with_reducible repeat first | apply b1 | apply b2 | apply b3); exact BK190.out)) : gb207 ≠ gb190)); have n16_ := Aside0.mk ((by rw [hg]; exact Nat.ne_of_lt (blk_lt (g := gb195) (o := .cells #[.int .i64 t192, .int .i64 t193] 23 (0, 0)) (by (with_reducible repeat first | apply b1 | apply b2 | apply b3); exact BK195.out)) : gb195 ≠ gb207)); have n17_ := Aside0.mk ((by rw [hg]; exact Nat.ne_of_gt (blk_lt (g := gb195) (o := .cells #[.int .i64 t192, .int .i64 t193] 23 (0, 0)) (by (with_reducible repeat first | apply b1 | apply b2 | apply b3); exact BK195.out)) : gb207 ≠ gb195)); have n18_ := Aside0.mk ((by rw [hg]; exact Nat.ne_of_lt (blk_lt (g := gb199) (o := .cells #[.int .i64 t196, .int .i64 t197] 23 (0, 0)) (by (with_reducible repeat first | apply b1 | apply b2 | apply b3); exact BK199.out)) : gb199 ≠ gb207)); have n19_ := Aside0.mk ((by rw [hg]; exact Nat.ne_of_gt (blk_lt (g := gb199) (o := .cells #[.int .i64 t196, .int .i64 t197] 23 (0, 0)) (by (with_reducible repeat first | apply b1 | apply b2 | apply b3); exact BK199.out)) : gb207 ≠ gb199)); have n20_ := Aside0.mk ((by rw [hg]; exact Nat.ne_of_lt (blk_lt (g := gb203) (o := .cells #[.int .i64 t200, .int .i64 t201] 23 (0, 0)) (by (with_reducible repeat first | apply b1 | apply b2 | apply b3); exact BK203.out)) : gb203 ≠ gb207)); have n21_ := Aside0.mk ((by rw [hg]; exact Nat.ne_of_gt (blk_lt (g := gb203) (o := .cells #[.int .i64 t200, .int .i64 t201] 23 (0, 0)) (by (with_reducible repeat first | apply b1 | apply b2 | apply b3); exact BK203.out)) : gb207 ≠ gb203)); clear BK188; clear BK189; clear BK190; clear BK195; clear BK199; clear BK203; clear HB; have BK188 := n0_; have BK189 := n1_; have BK190 := n2_; have BK195 := n3_; have BK199 := n4_; have BK203 := n5_; have HB := n6_; have BK207 := n7_; have GW207 := n8_; have GE207 := n9_; have NB188_207 := n10_; have NB207_188 := n11_; have NB189_207 := n12_; have NB207_189 := n13_; have NB190_207 := n14_; have NB207_190 := n15_; have NB195_207 := n16_; have NB207_195 := n17_; have NB199_207 := n18_; have NB207_199 := n19_; have NB203_207 := n20_; have NB207_203 := n21_; clear n0_ n1_ n2_ n3_ n4_ n5_ n6_ n7_ n8_ n9_ n10_ n11_ n12_ n13_ n14_ n15_ n16_ n17_ n18_ n19_ n20_ n21_; clear hb hbox hg; have hnb49 := NB207_188.out; have hnc49 := NB188_207.out; have hnb50 := NB207_189.out; have hnc50 := NB189_207.out; have hnb51 := NB207_190.out; have hnc51 := NB190_207.out; have hnb52 := NB207_195.out; have hnc52 := NB195_207.out; have hnb53 := NB207_199.out; have hnc53 := NB199_207.out; have hnb54 := NB207_203.out; have hnc54 := NB203_207.out; have hcz55_0 : w48.cell? ⟨gb207, 0, none⟩ = some (.int .i64 0) := (blk_cell BK207.out 0).trans rfl; have hcz55_1 : w48.cell? ⟨gb207, 1, none⟩ = some (.int .i64 0) := (blk_cell BK207.out 1).trans rfl; have hfz55_0 := blk_frozen BK207.out 0; have hfz55_1 := blk_frozen BK207.out 1))
  (try simp only [Act.put, List.setIfInBounds_toArray, List.set_cons_zero, List.set_cons_succ])
  go_cut [70] (fun v70 wc => ∃ (kq : Nat) (x70_9 : Bool), v70 = .bool x70_9 ∧ Aside0 (assessorlaw46_FractionField.j0 kq t194 t202 x70_9 a0_0 a0_1 a1_0 a1_1 a2_0 a2_1 t192 t193 t200 t201 = some r) ∧ Aside0 (kq ≤ k) ∧ Aside0 (wc.heap[gb188]? = some (.cells #[.int .i64 a0_0, .int .i64 a0_1] 23 (0, 0))) ∧ Aside0 (wc.heap[gb189]? = some (.cells #[.int .i64 a1_0, .int .i64 a1_1] 23 (0, 0))) ∧ Aside0 (wc.heap[gb190]? = some (.cells #[.int .i64 a2_0, .int .i64 a2_1] 23 (0, 0))) ∧ Aside0 (wc.heap[gb195]? = some (.cells #[.int .i64 t192, .int .i64 t193] 23 (0, 0))) ∧ Aside0 (wc.heap[gb199]? = some (.cells #[.int .i64 t196, .int .i64 t197] 23 (0, 0))) ∧ Aside0 (wc.heap[gb203]? = some (.cells #[.int .i64 t200, .int .i64 t201] 23 (0, 0))) ∧ Aside0 (wc.heap[gb207]? = some (.cells #[.int .i64 t204, .int .i64 t205] 23 (0, 0))) ∧ Aside0 (Below w.heap.size w wc))
  case first =>
   have H := HC10.out
   clear HC10
   by_cases c56 : (!(t192 == t196) || (!(t193 == t197))) = true
   ·
    rw [if_pos c56] at H
    have c56b0 : (!(t192 == t196) || (!(t193 == t197))) = true := c56
    clear c56
    (first | rw [c56b0] | (simp only [i64_w, i32_w]; rw [c56b0]) | skip)
    have H' := Aside0.mk H
    clear H
    have hnb57 := NB195_188.out
    have hnc57 := NB188_195.out
    have hnb58 := NB195_189.out
    have hnc58 := NB189_195.out
    have hnb59 := NB195_190.out
    have hnc59 := NB190_195.out
    have hnb60 := NB195_199.out
    have hnc60 := NB199_195.out
    have hnb61 := NB195_203.out
    have hnc61 := NB203_195.out
    have hnb62 := NB195_207.out
    have hnc62 := NB207_195.out
    have hcz63_0 : w48.cell? ⟨gb195, 0, none⟩ = some (.int .i64 t192) := (blk_cell BK195.out 0).trans rfl
    have hcz63_1 : w48.cell? ⟨gb195, 1, none⟩ = some (.int .i64 t193) := (blk_cell BK195.out 1).trans rfl
    have hfz63_0 := blk_frozen BK195.out 0
    have hfz63_1 := blk_frozen BK195.out 1
    have hnb64 := NB199_188.out
    have hnc64 := NB188_199.out
    have hnb65 := NB199_189.out
    have hnc65 := NB189_199.out
    have hnb66 := NB199_190.out
    have hnc66 := NB190_199.out
    have hnb67 := NB199_203.out
    have hnc67 := NB203_199.out
    have hnb68 := NB199_207.out
    have hnc68 := NB207_199.out
    have hcz69_0 : w48.cell? ⟨gb199, 0, none⟩ = some (.int .i64 t196) := (blk_cell BK199.out 0).trans rfl
    have hcz69_1 : w48.cell? ⟨gb199, 1, none⟩ = some (.int .i64 t197) := (blk_cell BK199.out 1).trans rfl
    have hfz69_0 := blk_frozen BK199.out 0
    have hfz69_1 := blk_frozen BK199.out 1
    go_wp2
    go_meet
    case rel => exact ⟨_, (true), (by first | rfl | (simp; done) | (simp [*]; done)), H', ⟨by first | omega | exact Nat.le_refl _⟩, ⟨by (with_reducible repeat first | apply b1 | apply b2 | apply b3); refine blk_far ?_ NB188_207.out _; (with_reducible repeat first | apply b1 | apply b2 | apply b3); refine blk_far ?_ NB188_207.out _; (with_reducible repeat first | apply b1 | apply b2 | apply b3); exact BK188.out⟩, ⟨by (with_reducible repeat first | apply b1 | apply b2 | apply b3); refine blk_far ?_ NB189_207.out _; (with_reducible repeat first | apply b1 | apply b2 | apply b3); refine blk_far ?_ NB189_207.out _; (with_reducible repeat first | apply b1 | apply b2 | apply b3); exact BK189.out⟩, ⟨by (with_reducible repeat first | apply b1 | apply b2 | apply b3); refine blk_far ?_ NB190_207.out _; (with_reducible repeat first | apply b1 | apply b2 | apply b3); refine blk_far ?_ NB190_207.out _; (with_reducible repeat first | apply b1 | apply b2 | apply b3); exact BK190.out⟩, ⟨by (with_reducible repeat first | apply b1 | apply b2 | apply b3); refine blk_far ?_ NB195_207.out _; (with_reducible repeat first | apply b1 | apply b2 | apply b3); refine blk_far ?_ NB195_207.out _; (with_reducible repeat first | apply b1 | apply b2 | apply b3); exact BK195.out⟩, ⟨by (with_reducible repeat first | apply b1 | apply b2 | apply b3); refine blk_far ?_ NB199_207.out _; (with_reducible repeat first | apply b1 | apply b2 | apply b3); refine blk_far ?_ NB199_207.out _; (with_reducible repeat first | apply b1 | apply b2 | apply b3); exact BK199.out⟩, ⟨by (with_reducible repeat first | apply b1 | apply b2 | apply b3); refine blk_far ?_ NB203_207.out _; (with_reducible repeat first | apply b1 | apply b2 | apply b3); refine blk_far ?_ NB203_207.out _; (with_reducible repeat first | apply b1 | apply b2 | apply b3); exact BK203.out⟩, ⟨by (with_reducible repeat first | apply b1 | apply b2 | apply b3); refine blk_put (cs := #[.int .i64 t204, .int .i64 0]) ?_ 1 _ rfl; (with_reducible repeat first | apply b1 | apply b2 | apply b3); refine blk_put (cs := #[.int .i64 0, .int .i64 0]) ?_ 0 _ rfl; (with_reducible repeat first | apply b1 | apply b2 | apply b3); exact BK207.out⟩, ⟨by repeat (first | (with_reducible first | exact HB.out | apply b4 | apply b5 | apply b6 | refine below_set ?_ GE188.out | refine below_set ?_ GE189.out | refine below_set ?_ GE190.out | refine below_set ?_ GE195.out | refine below_set ?_ GE199.out | refine below_set ?_ GE203.out | refine below_set ?_ GE207.out) | exact HB.out)⟩⟩
   ·
    rw [if_neg c56] at H
    have c56b0 : (!(t192 == t196) || (!(t193 == t197))) = false := by simpa using c56
    clear c56
    (first | rw [c56b0] | (simp only [i64_w, i32_w]; rw [c56b0]) | skip)
    by_cases c70 : t194 = t198
    ·
     rw [if_pos c70] at H
     have c70b0 : (t194 == t198) = true := beq_iff_eq.mpr c70
     have c70b1 : (t194 != t198) = false := bne_eq_false_iff_eq.mpr c70
     clear c70
     by_cases c71 : (!(t200 == t204) || (!(t201 == t205))) = true
     ·
      rw [if_pos c71] at H
      have c71b0 : (!(t200 == t204) || (!(t201 == t205))) = true := c71
      clear c71
      have H' := Aside0.mk H
      clear H
      have hnb72 := NB195_188.out
      have hnc72 := NB188_195.out
      have hnb73 := NB195_189.out
      have hnc73 := NB189_195.out
      have hnb74 := NB195_190.out
      have hnc74 := NB190_195.out
      have hnb75 := NB195_199.out
      have hnc75 := NB199_195.out
      have hnb76 := NB195_203.out
      have hnc76 := NB203_195.out
      have hnb77 := NB195_207.out
      have hnc77 := NB207_195.out
      have hcz78_0 : w48.cell? ⟨gb195, 0, none⟩ = some (.int .i64 t192) := (blk_cell BK195.out 0).trans rfl
      have hcz78_1 : w48.cell? ⟨gb195, 1, none⟩ = some (.int .i64 t193) := (blk_cell BK195.out 1).trans rfl
      have hfz78_0 := blk_frozen BK195.out 0
      have hfz78_1 := blk_frozen BK195.out 1
      have hnb79 := NB199_188.out
      have hnc79 := NB188_199.out
      have hnb80 := NB199_189.out
      have hnc80 := NB189_199.out
      have hnb81 := NB199_190.out
      have hnc81 := NB190_199.out
      have hnb82 := NB199_203.out
      have hnc82 := NB203_199.out
      have hnb83 := NB199_207.out
      have hnc83 := NB207_199.out
      have hcz84_0 : w48.cell? ⟨gb199, 0, none⟩ = some (.int .i64 t196) := (blk_cell BK199.out 0).trans rfl
      have hcz84_1 : w48.cell? ⟨gb199, 1, none⟩ = some (.int .i64 t197) := (blk_cell BK199.out 1).trans rfl
      have hfz84_0 := blk_frozen BK199.out 0
      have hfz84_1 := blk_frozen BK199.out 1
      have hnb85 := NB203_188.out
      have hnc85 := NB188_203.out
      have hnb86 := NB203_189.out
      have hnc86 := NB189_203.out
      have hnb87 := NB203_190.out
      have hnc87 := NB190_203.out
      have hnb88 := NB203_207.out
      have hnc88 := NB207_203.out
      have hcz89_0 : w48.cell? ⟨gb203, 0, none⟩ = some (.int .i64 t200) := (blk_cell BK203.out 0).trans rfl
      have hcz89_1 : w48.cell? ⟨gb203, 1, none⟩ = some (.int .i64 t201) := (blk_cell BK203.out 1).trans rfl
      have hfz89_0 := blk_frozen BK203.out 0
      have hfz89_1 := blk_frozen BK203.out 1
      have hnb90 := NB207_188.out
      have hnc90 := NB188_207.out
      have hnb91 := NB207_189.out
      have hnc91 := NB189_207.out
      have hnb92 := NB207_190.out
      have hnc92 := NB190_207.out
      have hcz93_0 : w48.cell? ⟨gb207, 0, none⟩ = some (.int .i64 0) := (blk_cell BK207.out 0).trans rfl
      have hcz93_1 : w48.cell? ⟨gb207, 1, none⟩ = some (.int .i64 0) := (blk_cell BK207.out 1).trans rfl
      have hfz93_0 := blk_frozen BK207.out 0
      have hfz93_1 := blk_frozen BK207.out 1
      go_wp2
      go_meet
      case rel => exact ⟨_, (true), (by first | rfl | (simp; done) | (simp [*]; done)), H', ⟨by first | omega | exact Nat.le_refl _⟩, ⟨by (with_reducible repeat first | apply b1 | apply b2 | apply b3); refine blk_far ?_ NB188_207.out _; (with_reducible repeat first | apply b1 | apply b2 | apply b3); refine blk_far ?_ NB188_207.out _; (with_reducible repeat first | apply b1 | apply b2 | apply b3); exact BK188.out⟩, ⟨by (with_reducible repeat first | apply b1 | apply b2 | apply b3); refine blk_far ?_ NB189_207.out _; (with_reducible repeat first | apply b1 | apply b2 | apply b3); refine blk_far ?_ NB189_207.out _; (with_reducible repeat first | apply b1 | apply b2 | apply b3); exact BK189.out⟩, ⟨by (with_reducible repeat first | apply b1 | apply b2 | apply b3); refine blk_far ?_ NB190_207.out _; (with_reducible repeat first | apply b1 | apply b2 | apply b3); refine blk_far ?_ NB190_207.out _; (with_reducible repeat first | apply b1 | apply b2 | apply b3); exact BK190.out⟩, ⟨by (with_reducible repeat first | apply b1 | apply b2 | apply b3); refine blk_far ?_ NB195_207.out _; (with_reducible repeat first | apply b1 | apply b2 | apply b3); refine blk_far ?_ NB195_207.out _; (with_reducible repeat first | apply b1 | apply b2 | apply b3); exact BK195.out⟩, ⟨by (with_reducible repeat first | apply b1 | apply b2 | apply b3); refine blk_far ?_ NB199_207.out _; (with_reducible repeat first | apply b1 | apply b2 | apply b3); refine blk_far ?_ NB199_207.out _; (with_reducible repeat first | apply b1 | apply b2 | apply b3); exact BK199.out⟩, ⟨by (with_reducible repeat first | apply b1 | apply b2 | apply b3); refine blk_far ?_ NB203_207.out _; (with_reducible repeat first | apply b1 | apply b2 | apply b3); refine blk_far ?_ NB203_207.out _; (with_reducible repeat first | apply b1 | apply b2 | apply b3); exact BK203.out⟩, ⟨by (with_reducible repeat first | apply b1 | apply b2 | apply b3); refine blk_put (cs := #[.int .i64 t204, .int .i64 0]) ?_ 1 _ rfl; (with_reducible repeat first | apply b1 | apply b2 | apply b3); refine blk_put (cs := #[.int .i64 0, .int .i64 0]) ?_ 0 _ rfl; (with_reducible repeat first | apply b1 | apply b2 | apply b3); exact BK207.out⟩, ⟨by repeat (first | (with_reducible first | exact HB.out | apply b4 | apply b5 | apply b6 | refine below_set ?_ GE188.out | refine below_set ?_ GE189.out | refine below_set ?_ GE190.out | refine below_set ?_ GE195.out | refine below_set ?_ GE199.out | refine below_set ?_ GE203.out | refine below_set ?_ GE207.out) | exact HB.out)⟩⟩
     ·
      rw [if_neg c71] at H
      have c71b0 : (!(t200 == t204) || (!(t201 == t205))) = false := by simpa using c71
      clear c71
      have H' := Aside0.mk H
      clear H
      have hnb94 := NB195_188.out
      have hnc94 := NB188_195.out
      have hnb95 := NB195_189.out
      have hnc95 := NB189_195.out
      have hnb96 := NB195_190.out
      have hnc96 := NB190_195.out
      have hnb97 := NB195_199.out
      have hnc97 := NB199_195.out
      have hnb98 := NB195_203.out
      have hnc98 := NB203_195.out
      have hnb99 := NB195_207.out
      have hnc99 := NB207_195.out
      have hcz100_0 : w48.cell? ⟨gb195, 0, none⟩ = some (.int .i64 t192) := (blk_cell BK195.out 0).trans rfl
      have hcz100_1 : w48.cell? ⟨gb195, 1, none⟩ = some (.int .i64 t193) := (blk_cell BK195.out 1).trans rfl
      have hfz100_0 := blk_frozen BK195.out 0
      have hfz100_1 := blk_frozen BK195.out 1
      have hnb101 := NB199_188.out
      have hnc101 := NB188_199.out
      have hnb102 := NB199_189.out
      have hnc102 := NB189_199.out
      have hnb103 := NB199_190.out
      have hnc103 := NB190_199.out
      have hnb104 := NB199_203.out
      have hnc104 := NB203_199.out
      have hnb105 := NB199_207.out
      have hnc105 := NB207_199.out
      have hcz106_0 : w48.cell? ⟨gb199, 0, none⟩ = some (.int .i64 t196) := (blk_cell BK199.out 0).trans rfl
      have hcz106_1 : w48.cell? ⟨gb199, 1, none⟩ = some (.int .i64 t197) := (blk_cell BK199.out 1).trans rfl
      have hfz106_0 := blk_frozen BK199.out 0
      have hfz106_1 := blk_frozen BK199.out 1
      have hnb107 := NB203_188.out
      have hnc107 := NB188_203.out
      have hnb108 := NB203_189.out
      have hnc108 := NB189_203.out
      have hnb109 := NB203_190.out
      have hnc109 := NB190_203.out
      have hnb110 := NB203_207.out
      have hnc110 := NB207_203.out
      have hcz111_0 : w48.cell? ⟨gb203, 0, none⟩ = some (.int .i64 t200) := (blk_cell BK203.out 0).trans rfl
      have hcz111_1 : w48.cell? ⟨gb203, 1, none⟩ = some (.int .i64 t201) := (blk_cell BK203.out 1).trans rfl
      have hfz111_0 := blk_frozen BK203.out 0
      have hfz111_1 := blk_frozen BK203.out 1
      have hnb112 := NB207_188.out
      have hnc112 := NB188_207.out
      have hnb113 := NB207_189.out
      have hnc113 := NB189_207.out
      have hnb114 := NB207_190.out
      have hnc114 := NB190_207.out
      have hcz115_0 : w48.cell? ⟨gb207, 0, none⟩ = some (.int .i64 0) := (blk_cell BK207.out 0).trans rfl
      have hcz115_1 : w48.cell? ⟨gb207, 1, none⟩ = some (.int .i64 0) := (blk_cell BK207.out 1).trans rfl
      have hfz115_0 := blk_frozen BK207.out 0
      have hfz115_1 := blk_frozen BK207.out 1
      go_wp2
      go_meet
      case rel => exact ⟨_, ((t202 != t206)), (by first | rfl | (simp; done) | (simp [*]; done)), H', ⟨by first | omega | exact Nat.le_refl _⟩, ⟨by (with_reducible repeat first | apply b1 | apply b2 | apply b3); refine blk_far ?_ NB188_207.out _; (with_reducible repeat first | apply b1 | apply b2 | apply b3); refine blk_far ?_ NB188_207.out _; (with_reducible repeat first | apply b1 | apply b2 | apply b3); exact BK188.out⟩, ⟨by (with_reducible repeat first | apply b1 | apply b2 | apply b3); refine blk_far ?_ NB189_207.out _; (with_reducible repeat first | apply b1 | apply b2 | apply b3); refine blk_far ?_ NB189_207.out _; (with_reducible repeat first | apply b1 | apply b2 | apply b3); exact BK189.out⟩, ⟨by (with_reducible repeat first | apply b1 | apply b2 | apply b3); refine blk_far ?_ NB190_207.out _; (with_reducible repeat first | apply b1 | apply b2 | apply b3); refine blk_far ?_ NB190_207.out _; (with_reducible repeat first | apply b1 | apply b2 | apply b3); exact BK190.out⟩, ⟨by (with_reducible repeat first | apply b1 | apply b2 | apply b3); refine blk_far ?_ NB195_207.out _; (with_reducible repeat first | apply b1 | apply b2 | apply b3); refine blk_far ?_ NB195_207.out _; (with_reducible repeat first | apply b1 | apply b2 | apply b3); exact BK195.out⟩, ⟨by (with_reducible repeat first | apply b1 | apply b2 | apply b3); refine blk_far ?_ NB199_207.out _; (with_reducible repeat first | apply b1 | apply b2 | apply b3); refine blk_far ?_ NB199_207.out _; (with_reducible repeat first | apply b1 | apply b2 | apply b3); exact BK199.out⟩, ⟨by (with_reducible repeat first | apply b1 | apply b2 | apply b3); refine blk_far ?_ NB203_207.out _; (with_reducible repeat first | apply b1 | apply b2 | apply b3); refine blk_far ?_ NB203_207.out _; (with_reducible repeat first | apply b1 | apply b2 | apply b3); exact BK203.out⟩, ⟨by (with_reducible repeat first | apply b1 | apply b2 | apply b3); refine blk_put (cs := #[.int .i64 t204, .int .i64 0]) ?_ 1 _ rfl; (with_reducible repeat first | apply b1 | apply b2 | apply b3); refine blk_put (cs := #[.int .i64 0, .int .i64 0]) ?_ 0 _ rfl; (with_reducible repeat first | apply b1 | apply b2 | apply b3); exact BK207.out⟩, ⟨by repeat (first | (with_reducible first | exact HB.out | apply b4 | apply b5 | apply b6 | refine below_set ?_ GE188.out | refine below_set ?_ GE189.out | refine below_set ?_ GE190.out | refine below_set ?_ GE195.out | refine below_set ?_ GE199.out | refine below_set ?_ GE203.out | refine below_set ?_ GE207.out) | exact HB.out)⟩⟩
    ·
     rw [if_neg c70] at H
     have c70b0 : (t194 == t198) = false := beq_eq_false_iff_ne.mpr c70
     have c70b1 : (t194 != t198) = true := bne_iff_ne.mpr c70
     have H' := Aside0.mk H
     clear H
     have hnb116 := NB195_188.out
     have hnc116 := NB188_195.out
     have hnb117 := NB195_189.out
     have hnc117 := NB189_195.out
     have hnb118 := NB195_190.out
     have hnc118 := NB190_195.out
     have hnb119 := NB195_199.out
     have hnc119 := NB199_195.out
     have hnb120 := NB195_203.out
     have hnc120 := NB203_195.out
     have hnb121 := NB195_207.out
     have hnc121 := NB207_195.out
     have hcz122_0 : w48.cell? ⟨gb195, 0, none⟩ = some (.int .i64 t192) := (blk_cell BK195.out 0).trans rfl
     have hcz122_1 : w48.cell? ⟨gb195, 1, none⟩ = some (.int .i64 t193) := (blk_cell BK195.out 1).trans rfl
     have hfz122_0 := blk_frozen BK195.out 0
     have hfz122_1 := blk_frozen BK195.out 1
     have hnb123 := NB199_188.out
     have hnc123 := NB188_199.out
     have hnb124 := NB199_189.out
     have hnc124 := NB189_199.out
     have hnb125 := NB199_190.out
     have hnc125 := NB190_199.out
     have hnb126 := NB199_203.out
     have hnc126 := NB203_199.out
     have hnb127 := NB199_207.out
     have hnc127 := NB207_199.out
     have hcz128_0 : w48.cell? ⟨gb199, 0, none⟩ = some (.int .i64 t196) := (blk_cell BK199.out 0).trans rfl
     have hcz128_1 : w48.cell? ⟨gb199, 1, none⟩ = some (.int .i64 t197) := (blk_cell BK199.out 1).trans rfl
     have hfz128_0 := blk_frozen BK199.out 0
     have hfz128_1 := blk_frozen BK199.out 1
     go_wp2
     go_meet
     case rel => exact ⟨_, (true), (by first | rfl | (simp; done) | (simp [*]; done)), H', ⟨by first | omega | exact Nat.le_refl _⟩, ⟨by (with_reducible repeat first | apply b1 | apply b2 | apply b3); refine blk_far ?_ NB188_207.out _; (with_reducible repeat first | apply b1 | apply b2 | apply b3); refine blk_far ?_ NB188_207.out _; (with_reducible repeat first | apply b1 | apply b2 | apply b3); exact BK188.out⟩, ⟨by (with_reducible repeat first | apply b1 | apply b2 | apply b3); refine blk_far ?_ NB189_207.out _; (with_reducible repeat first | apply b1 | apply b2 | apply b3); refine blk_far ?_ NB189_207.out _; (with_reducible repeat first | apply b1 | apply b2 | apply b3); exact BK189.out⟩, ⟨by (with_reducible repeat first | apply b1 | apply b2 | apply b3); refine blk_far ?_ NB190_207.out _; (with_reducible repeat first | apply b1 | apply b2 | apply b3); refine blk_far ?_ NB190_207.out _; (with_reducible repeat first | apply b1 | apply b2 | apply b3); exact BK190.out⟩, ⟨by (with_reducible repeat first | apply b1 | apply b2 | apply b3); refine blk_far ?_ NB195_207.out _; (with_reducible repeat first | apply b1 | apply b2 | apply b3); refine blk_far ?_ NB195_207.out _; (with_reducible repeat first | apply b1 | apply b2 | apply b3); exact BK195.out⟩, ⟨by (with_reducible repeat first | apply b1 | apply b2 | apply b3); refine blk_far ?_ NB199_207.out _; (with_reducible repeat first | apply b1 | apply b2 | apply b3); refine blk_far ?_ NB199_207.out _; (with_reducible repeat first | apply b1 | apply b2 | apply b3); exact BK199.out⟩, ⟨by (with_reducible repeat first | apply b1 | apply b2 | apply b3); refine blk_far ?_ NB203_207.out _; (with_reducible repeat first | apply b1 | apply b2 | apply b3); refine blk_far ?_ NB203_207.out _; (with_reducible repeat first | apply b1 | apply b2 | apply b3); exact BK203.out⟩, ⟨by (with_reducible repeat first | apply b1 | apply b2 | apply b3); refine blk_put (cs := #[.int .i64 t204, .int .i64 0]) ?_ 1 _ rfl; (with_reducible repeat first | apply b1 | apply b2 | apply b3); refine blk_put (cs := #[.int .i64 0, .int .i64 0]) ?_ 0 _ rfl; (with_reducible repeat first | apply b1 | apply b2 | apply b3); exact BK207.out⟩, ⟨by repeat (first | (with_reducible first | exact HB.out | apply b4 | apply b5 | apply b6 | refine below_set ?_ GE188.out | refine below_set ?_ GE189.out | refine below_set ?_ GE190.out | refine below_set ?_ GE195.out | refine below_set ?_ GE199.out | refine below_set ?_ GE203.out | refine below_set ?_ GE207.out) | exact HB.out)⟩⟩
  case rest =>
   clear HC10
   try clear c1
   try clear c2
   try clear p2
   try clear c3
   try clear c4
   try clear c5
   try clear c6
   try clear c7
   try clear c8
   try clear c9
   try clear c10
   try clear c11
   try clear c12
   try clear c15
   try clear c16
   try clear c18
   try clear c21
   try clear c22
   try clear c23
   try clear c24
   try clear c30
   try clear c31
   try clear c32
   try clear c33
   try clear c39
   try clear c40
   try clear c41
   try clear c42
   try clear c43
   try clear c49
   try clear c50
   try clear c51
   try clear c52
   try clear c53
   try clear c54
   try clear c56
   try clear c56b0
   try clear c57
   try clear c58
   try clear c59
   try clear c60
   try clear c61
   try clear c62
   try clear c64
   try clear c65
   try clear c66
   try clear c67
   try clear c68
   try clear c70
   try clear c70b0
   try clear c70b1
   try clear c71
   try clear c71b0
   try clear c72
   try clear c73
   try clear c74
   try clear c75
   try clear c76
   try clear c77
   try clear c79
   try clear c80
   try clear c81
   try clear c82
   try clear c83
   try clear c85
   try clear c86
   try clear c87
   try clear c88
   try clear c90
   try clear c91
   try clear c92
   try clear c94
   try clear c95
   try clear c96
   try clear c97
   try clear c98
   try clear c99
   try clear c101
   try clear c102
   try clear c103
   try clear c104
   try clear c105
   try clear c107
   try clear c108
   try clear c109
   try clear c110
   try clear c112
   try clear c113
   try clear c114
   try clear c116
   try clear c117
   try clear c118
   try clear c119
   try clear c120
   try clear c121
   try clear c123
   try clear c124
   try clear c125
   try clear c126
   try clear c127
   try clear hcz100_0
   try clear hcz100_1
   try clear hcz106_0
   try clear hcz106_1
   try clear hcz111_0
   try clear hcz111_1
   try clear hcz115_0
   try clear hcz115_1
   try clear hcz122_0
   try clear hcz122_1
   try clear hcz128_0
   try clear hcz128_1
   try clear hcz17_0
   try clear hcz17_1
   try clear hcz19_0
   try clear hcz19_1
   try clear hcz25_0
   try clear hcz25_1
   try clear hcz26_0
   try clear hcz26_1
   try clear hcz27_0
   try clear hcz27_1
   try clear hcz34_0
   try clear hcz34_1
   try clear hcz35_0
   try clear hcz35_1
   try clear hcz36_0
   try clear hcz36_1
   try clear hcz44_0
   try clear hcz44_1
   try clear hcz45_0
   try clear hcz45_1
   try clear hcz46_0
   try clear hcz46_1
   try clear hcz55_0
   try clear hcz55_1
   try clear hcz63_0
   try clear hcz63_1
   try clear hcz69_0
   try clear hcz69_1
   try clear hcz78_0
   try clear hcz78_1
   try clear hcz84_0
   try clear hcz84_1
   try clear hcz89_0
   try clear hcz89_1
   try clear hcz93_0
   try clear hcz93_1
   try clear hfz100_0
   try clear hfz100_1
   try clear hfz106_0
   try clear hfz106_1
   try clear hfz111_0
   try clear hfz111_1
   try clear hfz115_0
   try clear hfz115_1
   try clear hfz122_0
   try clear hfz122_1
   try clear hfz128_0
   try clear hfz128_1
   try clear hfz17_0
   try clear hfz17_1
   try clear hfz19_0
   try clear hfz19_1
   try clear hfz25_0
   try clear hfz25_1
   try clear hfz26_0
   try clear hfz26_1
   try clear hfz27_0
   try clear hfz27_1
   try clear hfz34_0
   try clear hfz34_1
   try clear hfz35_0
   try clear hfz35_1
   try clear hfz36_0
   try clear hfz36_1
   try clear hfz44_0
   try clear hfz44_1
   try clear hfz45_0
   try clear hfz45_1
   try clear hfz46_0
   try clear hfz46_1
   try clear hfz55_0
   try clear hfz55_1
   try clear hfz63_0
   try clear hfz63_1
   try clear hfz69_0
   try clear hfz69_1
   try clear hfz78_0
   try clear hfz78_1
   try clear hfz84_0
   try clear hfz84_1
   try clear hfz89_0
   try clear hfz89_1
   try clear hfz93_0
   try clear hfz93_1
   obtain ⟨kq, x70_9, rfl, HA, HJ9, BK188, BK189, BK190, BK195, BK199, BK203, BK207, HB⟩ := hcut
   cases kq with
   | zero => exact absurd HA.out (by simp [assessorlaw46_FractionField.j0])
   | succ kj9 =>
    have H := HA.out
    clear HA
    simp only [assessorlaw46_FractionField.j0] at H
    by_cases c129 : x70_9 = true
    ·
     subst c129
     have H1 : (some false) = some r := by rw [if_pos rfl] at H; exact H
     clear H
     have H := H1
     clear H1
     obtain rfl := Option.some.inj H
     exact absurd hr_.out (by simp)
    ·
     replace c129 := Bool.eq_false_iff.mpr c129
     subst c129
     have H1 : (if t194 = 0 then ((fraction_Sub.f kj9 t192 t193 a1_0 a1_1).bind fun bt208 => (if bt208.2.2 = 0 then (assessorlaw46_FractionField.j1 kj9 t194 t202 (!(bt208.1 == a0_0) || (!(bt208.2.1 == a0_1))) a0_0 a0_1 a1_0 a1_1 a2_0 a2_1 t192 t193 t200 t201) else (assessorlaw46_FractionField.j1 kj9 t194 t202 true a0_0 a0_1 a1_0 a1_1 a2_0 a2_1 t192 t193 t200 t201))) else (assessorlaw46_FractionField.j2 kj9 t194 t202 a0_0 a0_1 a1_0 a1_1 a2_0 a2_1 t192 t193 t200 t201)) = some r := by rw [if_neg (show ¬ (false = true) by decide)] at H; exact H
     clear H
     have H := H1
     clear H1
     have HC130 := Aside0.mk H
     clear H
     go_upto_if 72 with (fail)
     go_cut [] (fun wc => ∃ (kq : Nat), Aside0 (assessorlaw46_FractionField.j2 kq t194 t202 a0_0 a0_1 a1_0 a1_1 a2_0 a2_1 t192 t193 t200 t201 = some r) ∧ Aside0 (kq ≤ kj9) ∧ Aside0 (wc.heap[gb188]? = some (.cells #[.int .i64 a0_0, .int .i64 a0_1] 23 (0, 0))) ∧ Aside0 (wc.heap[gb189]? = some (.cells #[.int .i64 a1_0, .int .i64 a1_1] 23 (0, 0))) ∧ Aside0 (wc.heap[gb190]? = some (.cells #[.int .i64 a2_0, .int .i64 a2_1] 23 (0, 0))) ∧ Aside0 (wc.heap[gb195]? = some (.cells #[.int .i64 t192, .int .i64 t193] 23 (0, 0))) ∧ Aside0 (wc.heap[gb199]? = some (.cells #[.int .i64 t196, .int .i64 t197] 23 (0, 0))) ∧ Aside0 (wc.heap[gb203]? = some (.cells #[.int .i64 t200, .int .i64 t201] 23 (0, 0))) ∧ Aside0 (wc.heap[gb207]? = some (.cells #[.int .i64 t204, .int .i64 t205] 23 (0, 0))) ∧ Aside0 (Below w.heap.size w wc))
     case first =>
      have H := HC130.out
      clear HC130
      by_cases c131 : t194 = 0
      ·
       rw [if_pos c131] at H
       have c131b0 : (t194 == 0) = true := beq_iff_eq.mpr c131
       have c131b1 : (t194 != 0) = false := bne_eq_false_iff_eq.mpr c131
       clear c131
       (first | rw [c131b0] | (simp only [i64_w, i32_w]; rw [c131b0]) | skip)
       replace H := Option.bind_eq_some_iff.mp H
       obtain ⟨⟨t208, t209, t210⟩, A1320, H⟩ := H
       replace H : (if t210 = 0 then (assessorlaw46_FractionField.j1 kj9 t194 t202 (!(t208 == a0_0) || (!(t209 == a0_1))) a0_0 a0_1 a1_0 a1_1 a2_0 a2_1 t192 t193 t200 t201) else (assessorlaw46_FractionField.j1 kj9 t194 t202 true a0_0 a0_1 a1_0 a1_1 a2_0 a2_1 t192 t193 t200 t201)) = some r := H
       have A132 := Aside0.mk A1320
       clear A1320
       have HC133 := Aside0.mk H
       clear H
       have hnb134 := NB195_188.out
       have hnc134 := NB188_195.out
       have hnb135 := NB195_189.out
       have hnc135 := NB189_195.out
       have hnb136 := NB195_190.out
       have hnc136 := NB190_195.out
       have hnb137 := NB195_199.out
       have hnc137 := NB199_195.out
       have hnb138 := NB195_203.out
       have hnc138 := NB203_195.out
       have hnb139 := NB195_207.out
       have hnc139 := NB207_195.out
       have hcz140_0 : wc.cell? ⟨gb195, 0, none⟩ = some (.int .i64 t192) := (blk_cell BK195.out 0).trans rfl
       have hcz140_1 : wc.cell? ⟨gb195, 1, none⟩ = some (.int .i64 t193) := (blk_cell BK195.out 1).trans rfl
       have hfz140_0 := blk_frozen BK195.out 0
       have hfz140_1 := blk_frozen BK195.out 1
       have hnb141 := NB189_188.out
       have hnc141 := NB188_189.out
       have hnb142 := NB189_190.out
       have hnc142 := NB190_189.out
       have hnb143 := NB189_199.out
       have hnc143 := NB199_189.out
       have hnb144 := NB189_203.out
       have hnc144 := NB203_189.out
       have hnb145 := NB189_207.out
       have hnc145 := NB207_189.out
       have hcz146_0 : wc.cell? ⟨gb189, 0, none⟩ = some (.int .i64 a1_0) := (blk_cell BK189.out 0).trans rfl
       have hcz146_1 : wc.cell? ⟨gb189, 1, none⟩ = some (.int .i64 a1_1) := (blk_cell BK189.out 1).trans rfl
       have hfz146_0 := blk_frozen BK189.out 0
       have hfz146_1 := blk_frozen BK189.out 1
       go_upto_region 11 with (first | ((with_reducible refine gate_callee (f := 23) rfl ?_); refine goesL_ (some 76) rfl rfl Tryd.func23 (by kernel_rfl) rfl #[.agg #[.int .i64 t192, .int .i64 t193], .agg #[.int .i64 a1_0, .int .i64 a1_1]] rfl (by (try simp only [List.map_toArray, List.map_cons, List.map_nil]); first | done | rfl | (simp only [List.length_drop, List.length_take]; rfl)) ?_; (with_reducible refine (fraction_Sub.calls kj9 t192 t193 a1_0 a1_1 t208 t209 t210 _ A132.out).mono ?_); rintro e w147 ⟨rfl, hb⟩; refine ⟨_, rfl, ?_⟩; have n0_ := Aside0.mk (blk_below (g := gb188) (o := .cells #[.int .i64 a0_0, .int .i64 a0_1] 23 (0, 0)) (by (with_reducible repeat first | apply b1 | apply b2 | apply b3); exact BK188.out) hb); have n1_ := Aside0.mk (blk_below (g := gb189) (o := .cells #[.int .i64 a1_0, .int .i64 a1_1] 23 (0, 0)) (by (with_reducible repeat first | apply b1 | apply b2 | apply b3); exact BK189.out) hb); have n2_ := Aside0.mk (blk_below (g := gb190) (o := .cells #[.int .i64 a2_0, .int .i64 a2_1] 23 (0, 0)) (by (with_reducible repeat first | apply b1 | apply b2 | apply b3); exact BK190.out) hb); have n3_ := Aside0.mk (blk_below (g := gb195) (o := .cells #[.int .i64 t192, .int .i64 t193] 23 (0, 0)) (by (with_reducible repeat first | apply b1 | apply b2 | apply b3); exact BK195.out) hb); have n4_ := Aside0.mk (blk_below (g := gb199) (o := .cells #[.int .i64 t196, .int .i64 t197] 23 (0, 0)) (by (with_reducible repeat first | apply b1 | apply b2 | apply b3); exact BK199.out) hb); have n5_ := Aside0.mk (blk_below (g := gb203) (o := .cells #[.int .i64 t200, .int .i64 t201] 23 (0, 0)) (by (with_reducible repeat first | apply b1 | apply b2 | apply b3); exact BK203.out) hb); have n6_ := Aside0.mk (blk_below (g := gb207) (o := .cells #[.int .i64 t204, .int .i64 t205] 23 (0, 0)) (by (with_reducible repeat first | apply b1 | apply b2 | apply b3); exact BK207.out) hb); have n7_ := Aside0.mk (below_step (by repeat (first | (with_reducible first | exact HB.out | apply b4 | apply b5 | apply b6 | refine below_set ?_ GE188.out | refine below_set ?_ GE189.out | refine below_set ?_ GE190.out | refine below_set ?_ GE195.out | refine below_set ?_ GE199.out | refine below_set ?_ GE203.out | refine below_set ?_ GE207.out) | exact HB.out)) hb); clear BK188; clear BK189; clear BK190; clear BK195; clear BK199; clear BK203; clear BK207; clear HB; have BK188 := n0_; have BK189 := n1_; have BK190 := n2_; have BK195 := n3_; have BK199 := n4_; have BK203 := n5_; have BK207 := n6_; have HB := n7_; clear n0_ n1_ n2_ n3_ n4_ n5_ n6_ n7_; (try clear hb); (try clear hb2); (try clear hk); (try clear hi)) | ((with_reducible refine gate_dst (N := 15) rfl ?_); refine box_event ?hg (N := 15) ?hd (cs := #[.int .i64 0, .int .i64 0]) (t := 23) ?hr ?_; (case hd => rfl); (case hg => rfl); (case hr => first | (go_simp; done) | (go_simp; rfl)); intro gb211 hg w148 hbox hb; have n0_ := Aside0.mk (blk_below (g := gb188) (o := .cells #[.int .i64 a0_0, .int .i64 a0_1] 23 (0, 0)) (by (with_reducible repeat first | apply b1 | apply b2 | apply b3); exact BK188.out) hb); have n1_ := Aside0.mk (blk_below (g := gb189) (o := .cells #[.int .i64 a1_0, .int .i64 a1_1] 23 (0, 0)) (by (with_reducible repeat first | apply b1 | apply b2 | apply b3); exact BK189.out) hb); have n2_ := Aside0.mk (blk_below (g := gb190) (o := .cells #[.int .i64 a2_0, .int .i64 a2_1] 23 (0, 0)) (by (with_reducible repeat first | apply b1 | apply b2 | apply b3); exact BK190.out) hb); have n3_ := Aside0.mk (blk_below (g := gb195) (o := .cells #[.int .i64 t192, .int .i64 t193] 23 (0, 0)) (by (with_reducible repeat first | apply b1 | apply b2 | apply b3); exact BK195.out) hb); have n4_ := Aside0.mk (blk_below (g := gb199) (o := .cells #[.int .i64 t196, .int .i64 t197] 23 (0, 0)) (by (with_reducible repeat first | apply b1 | apply b2 | apply b3); exact BK199.out) hb); have n5_ := Aside0.mk (blk_below (g := gb203) (o := .cells #[.int .i64 t200, .int .i64 t201] 23 (0, 0)) (by (with_reducible repeat first | apply b1 | apply b2 | apply b3); exact BK203.out) hb); have n6_ := Aside0.mk (blk_below (g := gb207) (o := .cells #[.int .i64 t204, .int .i64 t205] 23 (0, 0)) (by (with_reducible repeat first | apply b1 | apply b2 | apply b3); exact BK207.out) hb); have n7_ := Aside0.mk (below_step (by repeat (first | (with_reducible first | exact HB.out | apply b4 | apply b5 | apply b6 | refine below_set ?_ GE188.out | refine below_set ?_ GE189.out | refine below_set ?_ GE190.out | refine below_set ?_ GE195.out | refine below_set ?_ GE199.out | refine below_set ?_ GE203.out | refine below_set ?_ GE207.out) | exact HB.out)) hb); have n8_ := Aside0.mk (hbox); have n9_ := Aside0.mk ((by rw [hg]; exact (below_size (by repeat (first | (with_reducible first | exact HB.out | apply b4 | apply b5 | apply b6 | refine below_set ?_ GE188.out | refine below_set ?_ GE189.out | refine below_set ?_ GE190.out | refine below_set ?_ GE195.out | refine below_set ?_ GE199.out | refine below_set ?_ GE203.out | refine below_set ?_ GE207.out) | exact HB.out))) : w.heap.size ≤ gb211)); have n10_ := Aside0.mk ((by rw [hg]; exact (below_size (by repeat (first | (with_reducible first | exact HB.out | apply b4 | apply b5 | apply b6 | refine below_set ?_ GE188.out | refine below_set ?_ GE189.out | refine below_set ?_ GE190.out | refine below_set ?_ GE195.out | refine below_set ?_ GE199.out | refine below_set ?_ GE203.out | refine below_set ?_ GE207.out) | exact HB.out))) : w.heap.size ≤ gb211)); have n11_ := Aside0.mk ((by rw [hg]; exact Nat.ne_of_lt (blk_lt (g := gb188) (o := .cells #[.int .i64 a0_0, .int .i64 a0_1] 23 (0, 0)) (by (with_reducible repeat first | apply b1 | apply b2 | apply b3); exact BK188.out)) : gb188 ≠ gb211)); have n12_ := Aside0.mk ((by rw [hg]; exact Nat.ne_of_gt (blk_lt (g := gb188) (o := .cells #[.int .i64 a0_0, .int .i64 a0_1] 23 (0, 0)) (by (with_reducible repeat first | apply b1 | apply b2 | apply b3); exact BK188.out)) : gb211 ≠ gb188)); have n13_ := Aside0.mk ((by rw [hg]; exact Nat.ne_of_lt (blk_lt (g := gb189) (o := .cells #[.int .i64 a1_0, .int .i64 a1_1] 23 (0, 0)) (by (with_reducible repeat first | apply b1 | apply b2 | apply b3); exact BK189.out)) : gb189 ≠ gb211)); have n14_ := Aside0.mk ((by rw [hg]; exact Nat.ne_of_gt (blk_lt (g := gb189) (o := .cells #[.int .i64 a1_0, .int .i64 a1_1] 23 (0, 0)) (by (with_reducible repeat first | apply b1 | apply b2 | apply b3); exact BK189.out)) : gb211 ≠ gb189)); have n15_ := Aside0.mk ((by rw [hg]; exact Nat.ne_of_lt (blk_lt (g := gb190) (o := .cells #[.int .i64 a2_0, .int .i64 a2_1] 23 (0, 0)) (by (with_reducible repeat first | apply b1 | apply b2 | apply b3); exact BK190.out)) : gb190 ≠ gb211)); have n16_ := Aside0.mk ((by rw [hg]; exact Nat.ne_of_gt (blk_lt (g := gb190) (o := .cells #[.int .i64 a2_0, .int .i64 a2_1] 23 (0, 0)) (by (with_reducible repeat first | apply b1 | apply b2 | apply b3); exact BK190.out)) : gb211 ≠ gb190)); have n17_ := Aside0.mk ((by rw [hg]; exact Nat.ne_of_lt (blk_lt (g := gb195) (o := .cells #[.int .i64 t192, .int .i64 t193] 23 (0, 0)) (by (with_reducible repeat first | apply b1 | apply b2 | apply b3); exact BK195.out)) : gb195 ≠ gb211)); have n18_ := Aside0.mk ((by rw [hg]; exact Nat.ne_of_gt (blk_lt (g := gb195) (o := .cells #[.int .i64 t192, .int .i64 t193] 23 (0, 0)) (by (with_reducible repeat first | apply b1 | apply b2 | apply b3); exact BK195.out)) : gb211 ≠ gb195)); have n19_ := Aside0.mk ((by rw [hg]; exact Nat.ne_of_lt (blk_lt (g := gb199) (o := .cells #[.int .i64 t196, .int .i64 t197] 23 (0, 0)) (by (with_reducible repeat first | apply b1 | apply b2 | apply b3); exact BK199.out)) : gb199 ≠ gb211)); have n20_ := Aside0.mk ((by rw [hg]; exact Nat.ne_of_gt (blk_lt (g := gb199) (o := .cells #[.int .i64 t196, .int .i64 t197] 23 (0, 0)) (by (with_reducible repeat first | apply b1 | apply b2 | apply b3); exact BK199.out)) : gb211 ≠ gb199)); have n21_ := Aside0.mk ((by rw [hg]; exact Nat.ne_of_lt (blk_lt (g := gb203) (o := .cells #[.int .i64 t200, .int .i64 t201] 23 (0, 0)) (by (with_reducible repeat first | apply b1 | apply b2 | apply b3); exact BK203.out)) : gb203 ≠ gb211)); have n22_ := Aside0.mk ((by rw [hg]; exact Nat.ne_of_gt (blk_lt (g := gb203) (o := .cells #[.int .i64 t200, .int .i64 t201] 23 (0, 0)) (by (with_reducible repeat first | apply b1 | apply b2 | apply b3); exact BK203.out)) : gb211 ≠ gb203)); have n23_ := Aside0.mk ((by rw [hg]; exact Nat.ne_of_lt (blk_lt (g := gb207) (o := .cells #[.int .i64 t204, .int .i64 t205] 23 (0, 0)) (by (with_reducible repeat first | apply b1 | apply b2 | apply b3); exact BK207.out)) : gb207 ≠ gb211)); have n24_ := Aside0.mk ((by rw [hg]; exact Nat.ne_of_gt (blk_lt (g := gb207) (o := .cells #[.int .i64 t204, .int .i64 t205] 23 (0, 0)) (by (with_reducible repeat first | apply b1 | apply b2 | apply b3); exact BK207.out)) : gb211 ≠ gb207)); clear BK188; clear BK189; clear BK190; clear BK195; clear BK199; clear BK203; clear BK207; clear HB; have BK188 := n0_; have BK189 := n1_; have BK190 := n2_; have BK195 := n3_; have BK199 := n4_; have BK203 := n5_; have BK207 := n6_; have HB := n7_; have BK211 := n8_; have GW211 := n9_; have GE211 := n10_; have NB188_211 := n11_; have NB211_188 := n12_; have NB189_211 := n13_; have NB211_189 := n14_; have NB190_211 := n15_; have NB211_190 := n16_; have NB195_211 := n17_; have NB211_195 := n18_; have NB199_211 := n19_; have NB211_199 := n20_; have NB203_211 := n21_; have NB211_203 := n22_; have NB207_211 := n23_; have NB211_207 := n24_; clear n0_ n1_ n2_ n3_ n4_ n5_ n6_ n7_ n8_ n9_ n10_ n11_ n12_ n13_ n14_ n15_ n16_ n17_ n18_ n19_ n20_ n21_ n22_ n23_ n24_; clear hb hbox hg; have hnb149 := NB211_188.out; have hnc149 := NB188_211.out; have hnb150 := NB211_189.out; have hnc150 := NB189_211.out; have hnb151 := NB211_190.out; have hnc151 := NB190_211.out; have hnb152 := NB211_195.out; have hnc152 := NB195_211.out; have hnb153 := NB211_199.out; have hnc153 := NB199_211.out; have hnb154 := NB211_203.out; have hnc154 := NB203_211.out; have hnb155 := NB211_207.out; have hnc155 := NB207_211.out; have hcz156_0 : w148.cell? ⟨gb211, 0, none⟩ = some (.int .i64 0) := (blk_cell BK211.out 0).trans rfl; have hcz156_1 : w148.cell? ⟨gb211, 1, none⟩ = some (.int .i64 0) := (blk_cell BK211.out 1).trans rfl; have hfz156_0 := blk_frozen BK211.out 0; have hfz156_1 := blk_frozen BK211.out 1))
       (try simp only [Act.put, List.setIfInBounds_toArray, List.set_cons_zero, List.set_cons_succ])
       go_cut [85] (fun v85 wc => ∃ (kq : Nat) (x85_132 : Bool), v85 = .bool x85_132 ∧ Aside0 (assessorlaw46_FractionField.j1 kq t194 t202 x85_132 a0_0 a0_1 a1_0 a1_1 a2_0 a2_1 t192 t193 t200 t201 = some r) ∧ Aside0 (kq ≤ kj9) ∧ Aside0 (wc.heap[gb188]? = some (.cells #[.int .i64 a0_0, .int .i64 a0_1] 23 (0, 0))) ∧ Aside0 (wc.heap[gb189]? = some (.cells #[.int .i64 a1_0, .int .i64 a1_1] 23 (0, 0))) ∧ Aside0 (wc.heap[gb190]? = some (.cells #[.int .i64 a2_0, .int .i64 a2_1] 23 (0, 0))) ∧ Aside0 (wc.heap[gb195]? = some (.cells #[.int .i64 t192, .int .i64 t193] 23 (0, 0))) ∧ Aside0 (wc.heap[gb199]? = some (.cells #[.int .i64 t196, .int .i64 t197] 23 (0, 0))) ∧ Aside0 (wc.heap[gb203]? = some (.cells #[.int .i64 t200, .int .i64 t201] 23 (0, 0))) ∧ Aside0 (wc.heap[gb207]? = some (.cells #[.int .i64 t204, .int .i64 t205] 23 (0, 0))) ∧ Aside0 (wc.heap[gb211]? = some (.cells #[.int .i64 t208, .int .i64 t209] 23 (0, 0))) ∧ Aside0 (Below w.heap.size w wc))
       case first =>
        have H := HC133.out
        clear HC133
        by_cases c157 : t210 = 0
        ·
         rw [if_pos c157] at H
         have c157b0 : (t210 == 0) = true := beq_iff_eq.mpr c157
         have c157b1 : (t210 != 0) = false := bne_eq_false_iff_eq.mpr c157
         clear c157
         (first | rw [c157b0] | (simp only [i64_w, i32_w]; rw [c157b0]) | skip)
         have H' := Aside0.mk H
         clear H
         have hnb158 := NB211_188.out
         have hnc158 := NB188_211.out
         have hnb159 := NB211_189.out
         have hnc159 := NB189_211.out
         have hnb160 := NB211_190.out
         have hnc160 := NB190_211.out
         have hnb161 := NB211_195.out
         have hnc161 := NB195_211.out
         have hnb162 := NB211_199.out
         have hnc162 := NB199_211.out
         have hnb163 := NB211_203.out
         have hnc163 := NB203_211.out
         have hnb164 := NB211_207.out
         have hnc164 := NB207_211.out
         have hcz165_0 : w148.cell? ⟨gb211, 0, none⟩ = some (.int .i64 0) := (blk_cell BK211.out 0).trans rfl
         have hcz165_1 : w148.cell? ⟨gb211, 1, none⟩ = some (.int .i64 0) := (blk_cell BK211.out 1).trans rfl
         have hfz165_0 := blk_frozen BK211.out 0
         have hfz165_1 := blk_frozen BK211.out 1
         have hnb166 := NB188_189.out
         have hnc166 := NB189_188.out
         have hnb167 := NB188_190.out
         have hnc167 := NB190_188.out
         have hnb168 := NB188_195.out
         have hnc168 := NB195_188.out
         have hnb169 := NB188_199.out
         have hnc169 := NB199_188.out
         have hnb170 := NB188_203.out
         have hnc170 := NB203_188.out
         have hnb171 := NB188_207.out
         have hnc171 := NB207_188.out
         have hcz172_0 : w148.cell? ⟨gb188, 0, none⟩ = some (.int .i64 a0_0) := (blk_cell BK188.out 0).trans rfl
         have hcz172_1 : w148.cell? ⟨gb188, 1, none⟩ = some (.int .i64 a0_1) := (blk_cell BK188.out 1).trans rfl
         have hfz172_0 := blk_frozen BK188.out 0
         have hfz172_1 := blk_frozen BK188.out 1
         go_wp2
         go_meet
         case rel => exact ⟨_, ((!(t208 == a0_0) || (!(t209 == a0_1)))), (by first | rfl | (simp; done) | (simp [*]; done)), H', ⟨by have := HJ9.out; first | omega | exact Nat.le_refl _⟩, ⟨by (with_reducible repeat first | apply b1 | apply b2 | apply b3); refine blk_far ?_ NB188_211.out _; (with_reducible repeat first | apply b1 | apply b2 | apply b3); refine blk_far ?_ NB188_211.out _; (with_reducible repeat first | apply b1 | apply b2 | apply b3); exact BK188.out⟩, ⟨by (with_reducible repeat first | apply b1 | apply b2 | apply b3); refine blk_far ?_ NB189_211.out _; (with_reducible repeat first | apply b1 | apply b2 | apply b3); refine blk_far ?_ NB189_211.out _; (with_reducible repeat first | apply b1 | apply b2 | apply b3); exact BK189.out⟩, ⟨by (with_reducible repeat first | apply b1 | apply b2 | apply b3); refine blk_far ?_ NB190_211.out _; (with_reducible repeat first | apply b1 | apply b2 | apply b3); refine blk_far ?_ NB190_211.out _; (with_reducible repeat first | apply b1 | apply b2 | apply b3); exact BK190.out⟩, ⟨by (with_reducible repeat first | apply b1 | apply b2 | apply b3); refine blk_far ?_ NB195_211.out _; (with_reducible repeat first | apply b1 | apply b2 | apply b3); refine blk_far ?_ NB195_211.out _; (with_reducible repeat first | apply b1 | apply b2 | apply b3); exact BK195.out⟩, ⟨by (with_reducible repeat first | apply b1 | apply b2 | apply b3); refine blk_far ?_ NB199_211.out _; (with_reducible repeat first | apply b1 | apply b2 | apply b3); refine blk_far ?_ NB199_211.out _; (with_reducible repeat first | apply b1 | apply b2 | apply b3); exact BK199.out⟩, ⟨by (with_reducible repeat first | apply b1 | apply b2 | apply b3); refine blk_far ?_ NB203_211.out _; (with_reducible repeat first | apply b1 | apply b2 | apply b3); refine blk_far ?_ NB203_211.out _; (with_reducible repeat first | apply b1 | apply b2 | apply b3); exact BK203.out⟩, ⟨by (with_reducible repeat first | apply b1 | apply b2 | apply b3); refine blk_far ?_ NB207_211.out _; (with_reducible repeat first | apply b1 | apply b2 | apply b3); refine blk_far ?_ NB207_211.out _; (with_reducible repeat first | apply b1 | apply b2 | apply b3); exact BK207.out⟩, ⟨by (with_reducible repeat first | apply b1 | apply b2 | apply b3); refine blk_put (cs := #[.int .i64 t208, .int .i64 0]) ?_ 1 _ rfl; (with_reducible repeat first | apply b1 | apply b2 | apply b3); refine blk_put (cs := #[.int .i64 0, .int .i64 0]) ?_ 0 _ rfl; (with_reducible repeat first | apply b1 | apply b2 | apply b3); exact BK211.out⟩, ⟨by repeat (first | (with_reducible first | exact HB.out | apply b4 | apply b5 | apply b6 | refine below_set ?_ GE188.out | refine below_set ?_ GE189.out | refine below_set ?_ GE190.out | refine below_set ?_ GE195.out | refine below_set ?_ GE199.out | refine below_set ?_ GE203.out | refine below_set ?_ GE207.out | refine below_set ?_ GE211.out) | exact HB.out)⟩⟩
        ·
         rw [if_neg c157] at H
         have c157b0 : (t210 == 0) = false := beq_eq_false_iff_ne.mpr c157
         have c157b1 : (t210 != 0) = true := bne_iff_ne.mpr c157
         (first | rw [c157b0] | (simp only [i64_w, i32_w]; rw [c157b0]) | skip)
         have H' := Aside0.mk H
         clear H
         go_wp2
         go_meet
         case rel => exact ⟨_, (true), (by first | rfl | (simp; done) | (simp [*]; done)), H', ⟨by have := HJ9.out; first | omega | exact Nat.le_refl _⟩, ⟨by (with_reducible repeat first | apply b1 | apply b2 | apply b3); refine blk_far ?_ NB188_211.out _; (with_reducible repeat first | apply b1 | apply b2 | apply b3); refine blk_far ?_ NB188_211.out _; (with_reducible repeat first | apply b1 | apply b2 | apply b3); exact BK188.out⟩, ⟨by (with_reducible repeat first | apply b1 | apply b2 | apply b3); refine blk_far ?_ NB189_211.out _; (with_reducible repeat first | apply b1 | apply b2 | apply b3); refine blk_far ?_ NB189_211.out _; (with_reducible repeat first | apply b1 | apply b2 | apply b3); exact BK189.out⟩, ⟨by (with_reducible repeat first | apply b1 | apply b2 | apply b3); refine blk_far ?_ NB190_211.out _; (with_reducible repeat first | apply b1 | apply b2 | apply b3); refine blk_far ?_ NB190_211.out _; (with_reducible repeat first | apply b1 | apply b2 | apply b3); exact BK190.out⟩, ⟨by (with_reducible repeat first | apply b1 | apply b2 | apply b3); refine blk_far ?_ NB195_211.out _; (with_reducible repeat first | apply b1 | apply b2 | apply b3); refine blk_far ?_ NB195_211.out _; (with_reducible repeat first | apply b1 | apply b2 | apply b3); exact BK195.out⟩, ⟨by (with_reducible repeat first | apply b1 | apply b2 | apply b3); refine blk_far ?_ NB199_211.out _; (with_reducible repeat first | apply b1 | apply b2 | apply b3); refine blk_far ?_ NB199_211.out _; (with_reducible repeat first | apply b1 | apply b2 | apply b3); exact BK199.out⟩, ⟨by (with_reducible repeat first | apply b1 | apply b2 | apply b3); refine blk_far ?_ NB203_211.out _; (with_reducible repeat first | apply b1 | apply b2 | apply b3); refine blk_far ?_ NB203_211.out _; (with_reducible repeat first | apply b1 | apply b2 | apply b3); exact BK203.out⟩, ⟨by (with_reducible repeat first | apply b1 | apply b2 | apply b3); refine blk_far ?_ NB207_211.out _; (with_reducible repeat first | apply b1 | apply b2 | apply b3); refine blk_far ?_ NB207_211.out _; (with_reducible repeat first | apply b1 | apply b2 | apply b3); exact BK207.out⟩, ⟨by (with_reducible repeat first | apply b1 | apply b2 | apply b3); refine blk_put (cs := #[.int .i64 t208, .int .i64 0]) ?_ 1 _ rfl; (with_reducible repeat first | apply b1 | apply b2 | apply b3); refine blk_put (cs := #[.int .i64 0, .int .i64 0]) ?_ 0 _ rfl; (with_reducible repeat first | apply b1 | apply b2 | apply b3); exact BK211.out⟩, ⟨by repeat (first | (with_reducible first | exact HB.out | apply b4 | apply b5 | apply b6 | refine below_set ?_ GE188.out | refine below_set ?_ GE189.out | refine below_set ?_ GE190.out | refine below_set ?_ GE195.out | refine below_set ?_ GE199.out | refine below_set ?_ GE203.out | refine below_set ?_ GE207.out | refine below_set ?_ GE211.out) | exact HB.out)⟩⟩
       case rest =>
        clear HC133
        try clear c1
        try clear c2
        try clear p2
        try clear c3
        try clear c4
        try clear c5
        try clear c6
        try clear c7
        try clear c8
        try clear c9
        try clear c10
        try clear c11
        try clear c12
        try clear c13
        try clear c14
        try clear c15
        try clear c16
        try clear c17
        try clear c18
        try clear c21
        try clear c22
        try clear c23
        try clear c24
        try clear c30
        try clear c31
        try clear c32
        try clear c33
        try clear c39
        try clear c40
        try clear c41
        try clear c42
        try clear c43
        try clear c49
        try clear c50
        try clear c51
        try clear c52
        try clear c53
        try clear c54
        try clear c56
        try clear c56b0
        try clear c57
        try clear c58
        try clear c59
        try clear c60
        try clear c61
        try clear c62
        try clear c64
        try clear c65
        try clear c66
        try clear c67
        try clear c68
        try clear c70
        try clear c70b0
        try clear c70b1
        try clear c71
        try clear c71b0
        try clear c72
        try clear c73
        try clear c74
        try clear c75
        try clear c76
        try clear c77
        try clear c79
        try clear c80
        try clear c81
        try clear c82
        try clear c83
        try clear c85
        try clear c86
        try clear c87
        try clear c88
        try clear c90
        try clear c91
        try clear c92
        try clear c94
        try clear c95
        try clear c96
        try clear c97
        try clear c98
        try clear c99
        try clear c101
        try clear c102
        try clear c103
        try clear c104
        try clear c105
        try clear c107
        try clear c108
        try clear c109
        try clear c110
        try clear c112
        try clear c113
        try clear c114
        try clear c116
        try clear c117
        try clear c118
        try clear c119
        try clear c120
        try clear c121
        try clear c123
        try clear c124
        try clear c125
        try clear c126
        try clear c127
        try clear c129
        try clear c131
        try clear c131b0
        try clear c131b1
        try clear c134
        try clear c135
        try clear c136
        try clear c137
        try clear c138
        try clear c139
        try clear c141
        try clear c142
        try clear c143
        try clear c144
        try clear c145
        try clear c149
        try clear c150
        try clear c151
        try clear c152
        try clear c153
        try clear c154
        try clear c155
        try clear c157
        try clear c157b0
        try clear c157b1
        try clear c158
        try clear c159
        try clear c160
        try clear c161
        try clear c162
        try clear c163
        try clear c164
        try clear c166
        try clear c167
        try clear c168
        try clear c169
        try clear c170
        try clear c171
        try clear hcz100_0
        try clear hcz100_1
        try clear hcz106_0
        try clear hcz106_1
        try clear hcz111_0
        try clear hcz111_1
        try clear hcz115_0
        try clear hcz115_1
        try clear hcz122_0
        try clear hcz122_1
        try clear hcz128_0
        try clear hcz128_1
        try clear hcz140_0
        try clear hcz140_1
        try clear hcz146_0
        try clear hcz146_1
        try clear hcz156_0
        try clear hcz156_1
        try clear hcz165_0
        try clear hcz165_1
        try clear hcz172_0
        try clear hcz172_1
        try clear hcz17_0
        try clear hcz17_1
        try clear hcz19_0
        try clear hcz19_1
        try clear hcz25_0
        try clear hcz25_1
        try clear hcz26_0
        try clear hcz26_1
        try clear hcz27_0
        try clear hcz27_1
        try clear hcz34_0
        try clear hcz34_1
        try clear hcz35_0
        try clear hcz35_1
        try clear hcz36_0
        try clear hcz36_1
        try clear hcz44_0
        try clear hcz44_1
        try clear hcz45_0
        try clear hcz45_1
        try clear hcz46_0
        try clear hcz46_1
        try clear hcz55_0
        try clear hcz55_1
        try clear hcz63_0
        try clear hcz63_1
        try clear hcz69_0
        try clear hcz69_1
        try clear hcz78_0
        try clear hcz78_1
        try clear hcz84_0
        try clear hcz84_1
        try clear hcz89_0
        try clear hcz89_1
        try clear hcz93_0
        try clear hcz93_1
        try clear hfz100_0
        try clear hfz100_1
        try clear hfz106_0
        try clear hfz106_1
        try clear hfz111_0
        try clear hfz111_1
        try clear hfz115_0
        try clear hfz115_1
        try clear hfz122_0
        try clear hfz122_1
        try clear hfz128_0
        try clear hfz128_1
        try clear hfz140_0
        try clear hfz140_1
        try clear hfz146_0
        try clear hfz146_1
        try clear hfz156_0
        try clear hfz156_1
        try clear hfz165_0
        try clear hfz165_1
        try clear hfz172_0
        try clear hfz172_1
        try clear hfz17_0
        try clear hfz17_1
        try clear hfz19_0
        try clear hfz19_1
        try clear hfz25_0
        try clear hfz25_1
        try clear hfz26_0
        try clear hfz26_1
        try clear hfz27_0
        try clear hfz27_1
        try clear hfz34_0
        try clear hfz34_1
        try clear hfz35_0
        try clear hfz35_1
        try clear hfz36_0
        try clear hfz36_1
        try clear hfz44_0
        try clear hfz44_1
        try clear hfz45_0
        try clear hfz45_1
        try clear hfz46_0
        try clear hfz46_1
        try clear hfz55_0
        try clear hfz55_1
        try clear hfz63_0
        try clear hfz63_1
        try clear hfz69_0
        try clear hfz69_1
        try clear hfz78_0
        try clear hfz78_1
        try clear hfz84_0
        try clear hfz84_1
        try clear hfz89_0
        try clear hfz89_1
        try clear hfz93_0
        try clear hfz93_1
        try clear p2
        obtain ⟨kq, x85_132, rfl, HA, HJ132, BK188, BK189, BK190, BK195, BK199, BK203, BK207, BK211, HB⟩ := hcut
        cases kq with
        | zero => exact absurd HA.out (by simp [assessorlaw46_FractionField.j1])
        | succ kj132 =>
         have H := HA.out
         clear HA
         simp only [assessorlaw46_FractionField.j1] at H
         by_cases c173 : x85_132 = true
         ·
          subst c173
          have H1 : (some false) = some r := by rw [if_pos rfl] at H; exact H
          clear H
          have H := H1
          clear H1
          obtain rfl := Option.some.inj H
          exact absurd hr_.out (by simp)
         ·
          replace c173 := Bool.eq_false_iff.mpr c173
          subst c173
          have H1 : (assessorlaw46_FractionField.j2 kj132 t194 t202 a0_0 a0_1 a1_0 a1_1 a2_0 a2_1 t192 t193 t200 t201) = some r := by rw [if_neg (show ¬ (false = true) by decide)] at H; exact H
          clear H
          have H := H1
          clear H1
          have H' := Aside0.mk H
          clear H
          go_wp2
          go_meet
          case rel => exact ⟨_, H', ⟨by have := HJ9.out; have := HJ132.out; first | omega | exact Nat.le_refl _⟩, ⟨by (with_reducible repeat first | apply b1 | apply b2 | apply b3); exact BK188.out⟩, ⟨by (with_reducible repeat first | apply b1 | apply b2 | apply b3); exact BK189.out⟩, ⟨by (with_reducible repeat first | apply b1 | apply b2 | apply b3); exact BK190.out⟩, ⟨by (with_reducible repeat first | apply b1 | apply b2 | apply b3); exact BK195.out⟩, ⟨by (with_reducible repeat first | apply b1 | apply b2 | apply b3); exact BK199.out⟩, ⟨by (with_reducible repeat first | apply b1 | apply b2 | apply b3); exact BK203.out⟩, ⟨by (with_reducible repeat first | apply b1 | apply b2 | apply b3); exact BK207.out⟩, ⟨by repeat (first | (with_reducible first | exact HB.out | apply b4 | apply b5 | apply b6 | refine below_set ?_ GE188.out | refine below_set ?_ GE189.out | refine below_set ?_ GE190.out | refine below_set ?_ GE195.out | refine below_set ?_ GE199.out | refine below_set ?_ GE203.out | refine below_set ?_ GE207.out | refine below_set ?_ GE211.out) | exact HB.out)⟩⟩
      ·
       rw [if_neg c131] at H
       have c131b0 : (t194 == 0) = false := beq_eq_false_iff_ne.mpr c131
       have c131b1 : (t194 != 0) = true := bne_iff_ne.mpr c131
       (first | rw [c131b0] | (simp only [i64_w, i32_w]; rw [c131b0]) | skip)
       have H' := Aside0.mk H
       clear H
       go_wp2
       go_meet
       case rel => exact ⟨_, H', ⟨by have := HJ9.out; first | omega | exact Nat.le_refl _⟩, ⟨by (with_reducible repeat first | apply b1 | apply b2 | apply b3); exact BK188.out⟩, ⟨by (with_reducible repeat first | apply b1 | apply b2 | apply b3); exact BK189.out⟩, ⟨by (with_reducible repeat first | apply b1 | apply b2 | apply b3); exact BK190.out⟩, ⟨by (with_reducible repeat first | apply b1 | apply b2 | apply b3); exact BK195.out⟩, ⟨by (with_reducible repeat first | apply b1 | apply b2 | apply b3); exact BK199.out⟩, ⟨by (with_reducible repeat first | apply b1 | apply b2 | apply b3); exact BK203.out⟩, ⟨by (with_reducible repeat first | apply b1 | apply b2 | apply b3); exact BK207.out⟩, ⟨by repeat (first | (with_reducible first | exact HB.out | apply b4 | apply b5 | apply b6 | refine below_set ?_ GE188.out | refine below_set ?_ GE189.out | refine below_set ?_ GE190.out | refine below_set ?_ GE195.out | refine below_set ?_ GE199.out | refine below_set ?_ GE203.out | refine below_set ?_ GE207.out) | exact HB.out)⟩⟩
     case rest =>
      clear HC130
      try clear c1
      try clear c2
      try clear p2
      try clear c3
      try clear c4
      try clear c5
      try clear c6
      try clear c7
      try clear c8
      try clear c9
      try clear c10
      try clear c11
      try clear c12
      try clear c13
      try clear c14
      try clear c15
      try clear c16
      try clear c17
      try clear c18
      try clear c21
      try clear c22
      try clear c23
      try clear c24
      try clear c30
      try clear c31
      try clear c32
      try clear c33
      try clear c39
      try clear c40
      try clear c41
      try clear c42
      try clear c43
      try clear c49
      try clear c50
      try clear c51
      try clear c52
      try clear c53
      try clear c54
      try clear c56
      try clear c56b0
      try clear c57
      try clear c58
      try clear c59
      try clear c60
      try clear c61
      try clear c62
      try clear c64
      try clear c65
      try clear c66
      try clear c67
      try clear c68
      try clear c70
      try clear c70b0
      try clear c70b1
      try clear c71
      try clear c71b0
      try clear c72
      try clear c73
      try clear c74
      try clear c75
      try clear c76
      try clear c77
      try clear c79
      try clear c80
      try clear c81
      try clear c82
      try clear c83
      try clear c85
      try clear c86
      try clear c87
      try clear c88
      try clear c90
      try clear c91
      try clear c92
      try clear c94
      try clear c95
      try clear c96
      try clear c97
      try clear c98
      try clear c99
      try clear c101
      try clear c102
      try clear c103
      try clear c104
      try clear c105
      try clear c107
      try clear c108
      try clear c109
      try clear c110
      try clear c112
      try clear c113
      try clear c114
      try clear c116
      try clear c117
      try clear c118
      try clear c119
      try clear c120
      try clear c121
      try clear c123
      try clear c124
      try clear c125
      try clear c126
      try clear c127
      try clear c129
      try clear c131
      try clear c131b0
      try clear c131b1
      try clear c134
      try clear c135
      try clear c136
      try clear c137
      try clear c138
      try clear c139
      try clear c141
      try clear c142
      try clear c143
      try clear c144
      try clear c145
      try clear c149
      try clear c150
      try clear c151
      try clear c152
      try clear c153
      try clear c154
      try clear c155
      try clear c157
      try clear c157b0
      try clear c157b1
      try clear c158
      try clear c159
      try clear c160
      try clear c161
      try clear c162
      try clear c163
      try clear c164
      try clear c166
      try clear c167
      try clear c168
      try clear c169
      try clear c170
      try clear c171
      try clear c173
      try clear hcz100_0
      try clear hcz100_1
      try clear hcz106_0
      try clear hcz106_1
      try clear hcz111_0
      try clear hcz111_1
      try clear hcz115_0
      try clear hcz115_1
      try clear hcz122_0
      try clear hcz122_1
      try clear hcz128_0
      try clear hcz128_1
      try clear hcz140_0
      try clear hcz140_1
      try clear hcz146_0
      try clear hcz146_1
      try clear hcz156_0
      try clear hcz156_1
      try clear hcz165_0
      try clear hcz165_1
      try clear hcz172_0
      try clear hcz172_1
      try clear hcz17_0
      try clear hcz17_1
      try clear hcz19_0
      try clear hcz19_1
      try clear hcz25_0
      try clear hcz25_1
      try clear hcz26_0
      try clear hcz26_1
      try clear hcz27_0
      try clear hcz27_1
      try clear hcz34_0
      try clear hcz34_1
      try clear hcz35_0
      try clear hcz35_1
      try clear hcz36_0
      try clear hcz36_1
      try clear hcz44_0
      try clear hcz44_1
      try clear hcz45_0
      try clear hcz45_1
      try clear hcz46_0
      try clear hcz46_1
      try clear hcz55_0
      try clear hcz55_1
      try clear hcz63_0
      try clear hcz63_1
      try clear hcz69_0
      try clear hcz69_1
      try clear hcz78_0
      try clear hcz78_1
      try clear hcz84_0
      try clear hcz84_1
      try clear hcz89_0
      try clear hcz89_1
      try clear hcz93_0
      try clear hcz93_1
      try clear hfz100_0
      try clear hfz100_1
      try clear hfz106_0
      try clear hfz106_1
      try clear hfz111_0
      try clear hfz111_1
      try clear hfz115_0
      try clear hfz115_1
      try clear hfz122_0
      try clear hfz122_1
      try clear hfz128_0
      try clear hfz128_1
      try clear hfz140_0
      try clear hfz140_1
      try clear hfz146_0
      try clear hfz146_1
      try clear hfz156_0
      try clear hfz156_1
      try clear hfz165_0
      try clear hfz165_1
      try clear hfz172_0
      try clear hfz172_1
      try clear hfz17_0
      try clear hfz17_1
      try clear hfz19_0
      try clear hfz19_1
      try clear hfz25_0
      try clear hfz25_1
      try clear hfz26_0
      try clear hfz26_1
      try clear hfz27_0
      try clear hfz27_1
      try clear hfz34_0
      try clear hfz34_1
      try clear hfz35_0
      try clear hfz35_1
      try clear hfz36_0
      try clear hfz36_1
      try clear hfz44_0
      try clear hfz44_1
      try clear hfz45_0
      try clear hfz45_1
      try clear hfz46_0
      try clear hfz46_1
      try clear hfz55_0
      try clear hfz55_1
      try clear hfz63_0
      try clear hfz63_1
      try clear hfz69_0
      try clear hfz69_1
      try clear hfz78_0
      try clear hfz78_1
      try clear hfz84_0
      try clear hfz84_1
      try clear hfz89_0
      try clear hfz89_1
      try clear hfz93_0
      try clear hfz93_1
      try clear p2
      obtain ⟨kq, HA, HJ129, BK188, BK189, BK190, BK195, BK199, BK203, BK207, HB⟩ := hcut
      cases kq with
      | zero => exact absurd HA.out (by simp [assessorlaw46_FractionField.j2])
      | succ kj129 =>
       have H := HA.out
       clear HA
       simp only [assessorlaw46_FractionField.j2] at H
       have HC174 := Aside0.mk H
       clear H
       go_upto_region 13 with (fail)
       go_cut [92] (fun v92 wc => ∃ (kq : Nat) (x92_173 : Bool), v92 = .bool x92_173 ∧ Aside0 (assessorlaw46_FractionField.j3 kq t194 x92_173 a0_0 a0_1 a1_0 a1_1 a2_0 a2_1 t192 t193 t200 t201 = some r) ∧ Aside0 (kq ≤ kj129) ∧ Aside0 (wc.heap[gb188]? = some (.cells #[.int .i64 a0_0, .int .i64 a0_1] 23 (0, 0))) ∧ Aside0 (wc.heap[gb189]? = some (.cells #[.int .i64 a1_0, .int .i64 a1_1] 23 (0, 0))) ∧ Aside0 (wc.heap[gb190]? = some (.cells #[.int .i64 a2_0, .int .i64 a2_1] 23 (0, 0))) ∧ Aside0 (wc.heap[gb195]? = some (.cells #[.int .i64 t192, .int .i64 t193] 23 (0, 0))) ∧ Aside0 (wc.heap[gb199]? = some (.cells #[.int .i64 t196, .int .i64 t197] 23 (0, 0))) ∧ Aside0 (wc.heap[gb203]? = some (.cells #[.int .i64 t200, .int .i64 t201] 23 (0, 0))) ∧ Aside0 (wc.heap[gb207]? = some (.cells #[.int .i64 t204, .int .i64 t205] 23 (0, 0))) ∧ Aside0 (Below w.heap.size w wc))
       case first =>
        have H := HC174.out
        clear HC174
        by_cases c175 : t202 = 0
        ·
         rw [if_pos c175] at H
         have c175b0 : (t202 == 0) = true := beq_iff_eq.mpr c175
         have c175b1 : (t202 != 0) = false := bne_eq_false_iff_eq.mpr c175
         clear c175
         (first | rw [c175b0] | (simp only [i64_w, i32_w]; rw [c175b0]) | skip)
         have H' := Aside0.mk H
         clear H
         have hnb176 := NB189_188.out
         have hnc176 := NB188_189.out
         have hnb177 := NB189_190.out
         have hnc177 := NB190_189.out
         have hnb178 := NB189_195.out
         have hnc178 := NB195_189.out
         have hnb179 := NB189_199.out
         have hnc179 := NB199_189.out
         have hnb180 := NB189_203.out
         have hnc180 := NB203_189.out
         have hnb181 := NB189_207.out
         have hnc181 := NB207_189.out
         have hcz182_0 : wc.cell? ⟨gb189, 0, none⟩ = some (.int .i64 a1_0) := (blk_cell BK189.out 0).trans rfl
         have hcz182_1 : wc.cell? ⟨gb189, 1, none⟩ = some (.int .i64 a1_1) := (blk_cell BK189.out 1).trans rfl
         have hfz182_0 := blk_frozen BK189.out 0
         have hfz182_1 := blk_frozen BK189.out 1
         go_wp2
         go_meet
         case rel => exact ⟨_, ((a1_0 != 0)), (by first | rfl | (simp; done) | (simp [*]; done)), H', ⟨by have := HJ9.out; have := HJ129.out; first | omega | exact Nat.le_refl _⟩, ⟨by (with_reducible repeat first | apply b1 | apply b2 | apply b3); exact BK188.out⟩, ⟨by (with_reducible repeat first | apply b1 | apply b2 | apply b3); exact BK189.out⟩, ⟨by (with_reducible repeat first | apply b1 | apply b2 | apply b3); exact BK190.out⟩, ⟨by (with_reducible repeat first | apply b1 | apply b2 | apply b3); exact BK195.out⟩, ⟨by (with_reducible repeat first | apply b1 | apply b2 | apply b3); exact BK199.out⟩, ⟨by (with_reducible repeat first | apply b1 | apply b2 | apply b3); exact BK203.out⟩, ⟨by (with_reducible repeat first | apply b1 | apply b2 | apply b3); exact BK207.out⟩, ⟨by repeat (first | (with_reducible first | exact HB.out | apply b4 | apply b5 | apply b6 | refine below_set ?_ GE188.out | refine below_set ?_ GE189.out | refine below_set ?_ GE190.out | refine below_set ?_ GE195.out | refine below_set ?_ GE199.out | refine below_set ?_ GE203.out | refine below_set ?_ GE207.out) | exact HB.out)⟩⟩
        ·
         rw [if_neg c175] at H
         have c175b0 : (t202 == 0) = false := beq_eq_false_iff_ne.mpr c175
         have c175b1 : (t202 != 0) = true := bne_iff_ne.mpr c175
         (first | rw [c175b0] | (simp only [i64_w, i32_w]; rw [c175b0]) | skip)
         have H' := Aside0.mk H
         clear H
         go_wp2
         go_meet
         case rel => exact ⟨_, (false), (by first | rfl | (simp; done) | (simp [*]; done)), H', ⟨by have := HJ9.out; have := HJ129.out; first | omega | exact Nat.le_refl _⟩, ⟨by (with_reducible repeat first | apply b1 | apply b2 | apply b3); exact BK188.out⟩, ⟨by (with_reducible repeat first | apply b1 | apply b2 | apply b3); exact BK189.out⟩, ⟨by (with_reducible repeat first | apply b1 | apply b2 | apply b3); exact BK190.out⟩, ⟨by (with_reducible repeat first | apply b1 | apply b2 | apply b3); exact BK195.out⟩, ⟨by (with_reducible repeat first | apply b1 | apply b2 | apply b3); exact BK199.out⟩, ⟨by (with_reducible repeat first | apply b1 | apply b2 | apply b3); exact BK203.out⟩, ⟨by (with_reducible repeat first | apply b1 | apply b2 | apply b3); exact BK207.out⟩, ⟨by repeat (first | (with_reducible first | exact HB.out | apply b4 | apply b5 | apply b6 | refine below_set ?_ GE188.out | refine below_set ?_ GE189.out | refine below_set ?_ GE190.out | refine below_set ?_ GE195.out | refine below_set ?_ GE199.out | refine below_set ?_ GE203.out | refine below_set ?_ GE207.out) | exact HB.out)⟩⟩
       case rest =>
        clear HC174
        try clear c1
        try clear c2
        try clear p2
        try clear c3
        try clear c4
        try clear c5
        try clear c6
        try clear c7
        try clear c8
        try clear c9
        try clear c10
        try clear c11
        try clear c12
        try clear c13
        try clear c14
        try clear c15
        try clear c16
        try clear c17
        try clear c18
        try clear c21
        try clear c22
        try clear c23
        try clear c24
        try clear c30
        try clear c31
        try clear c32
        try clear c33
        try clear c39
        try clear c40
        try clear c41
        try clear c42
        try clear c43
        try clear c49
        try clear c50
        try clear c51
        try clear c52
        try clear c53
        try clear c54
        try clear c56
        try clear c56b0
        try clear c57
        try clear c58
        try clear c59
        try clear c60
        try clear c61
        try clear c62
        try clear c64
        try clear c65
        try clear c66
        try clear c67
        try clear c68
        try clear c70
        try clear c70b0
        try clear c70b1
        try clear c71
        try clear c71b0
        try clear c72
        try clear c73
        try clear c74
        try clear c75
        try clear c76
        try clear c77
        try clear c79
        try clear c80
        try clear c81
        try clear c82
        try clear c83
        try clear c85
        try clear c86
        try clear c87
        try clear c88
        try clear c90
        try clear c91
        try clear c92
        try clear c94
        try clear c95
        try clear c96
        try clear c97
        try clear c98
        try clear c99
        try clear c101
        try clear c102
        try clear c103
        try clear c104
        try clear c105
        try clear c107
        try clear c108
        try clear c109
        try clear c110
        try clear c112
        try clear c113
        try clear c114
        try clear c116
        try clear c117
        try clear c118
        try clear c119
        try clear c120
        try clear c121
        try clear c123
        try clear c124
        try clear c125
        try clear c126
        try clear c127
        try clear c129
        try clear c131
        try clear c131b0
        try clear c131b1
        try clear c134
        try clear c135
        try clear c136
        try clear c137
        try clear c138
        try clear c139
        try clear c141
        try clear c142
        try clear c143
        try clear c144
        try clear c145
        try clear c149
        try clear c150
        try clear c151
        try clear c152
        try clear c153
        try clear c154
        try clear c155
        try clear c157
        try clear c157b0
        try clear c157b1
        try clear c158
        try clear c159
        try clear c160
        try clear c161
        try clear c162
        try clear c163
        try clear c164
        try clear c166
        try clear c167
        try clear c168
        try clear c169
        try clear c170
        try clear c171
        try clear c173
        try clear c175
        try clear c175b0
        try clear c175b1
        try clear c176
        try clear c177
        try clear c178
        try clear c179
        try clear c180
        try clear c181
        try clear hcz100_0
        try clear hcz100_1
        try clear hcz106_0
        try clear hcz106_1
        try clear hcz111_0
        try clear hcz111_1
        try clear hcz115_0
        try clear hcz115_1
        try clear hcz122_0
        try clear hcz122_1
        try clear hcz128_0
        try clear hcz128_1
        try clear hcz140_0
        try clear hcz140_1
        try clear hcz146_0
        try clear hcz146_1
        try clear hcz156_0
        try clear hcz156_1
        try clear hcz165_0
        try clear hcz165_1
        try clear hcz172_0
        try clear hcz172_1
        try clear hcz17_0
        try clear hcz17_1
        try clear hcz182_0
        try clear hcz182_1
        try clear hcz19_0
        try clear hcz19_1
        try clear hcz25_0
        try clear hcz25_1
        try clear hcz26_0
        try clear hcz26_1
        try clear hcz27_0
        try clear hcz27_1
        try clear hcz34_0
        try clear hcz34_1
        try clear hcz35_0
        try clear hcz35_1
        try clear hcz36_0
        try clear hcz36_1
        try clear hcz44_0
        try clear hcz44_1
        try clear hcz45_0
        try clear hcz45_1
        try clear hcz46_0
        try clear hcz46_1
        try clear hcz55_0
        try clear hcz55_1
        try clear hcz63_0
        try clear hcz63_1
        try clear hcz69_0
        try clear hcz69_1
        try clear hcz78_0
        try clear hcz78_1
        try clear hcz84_0
        try clear hcz84_1
        try clear hcz89_0
        try clear hcz89_1
        try clear hcz93_0
        try clear hcz93_1
        try clear hfz100_0
        try clear hfz100_1
        try clear hfz106_0
        try clear hfz106_1
        try clear hfz111_0
        try clear hfz111_1
        try clear hfz115_0
        try clear hfz115_1
        try clear hfz122_0
        try clear hfz122_1
        try clear hfz128_0
        try clear hfz128_1
        try clear hfz140_0
        try clear hfz140_1
        try clear hfz146_0
        try clear hfz146_1
        try clear hfz156_0
        try clear hfz156_1
        try clear hfz165_0
        try clear hfz165_1
        try clear hfz172_0
        try clear hfz172_1
        try clear hfz17_0
        try clear hfz17_1
        try clear hfz182_0
        try clear hfz182_1
        try clear hfz19_0
        try clear hfz19_1
        try clear hfz25_0
        try clear hfz25_1
        try clear hfz26_0
        try clear hfz26_1
        try clear hfz27_0
        try clear hfz27_1
        try clear hfz34_0
        try clear hfz34_1
        try clear hfz35_0
        try clear hfz35_1
        try clear hfz36_0
        try clear hfz36_1
        try clear hfz44_0
        try clear hfz44_1
        try clear hfz45_0
        try clear hfz45_1
        try clear hfz46_0
        try clear hfz46_1
        try clear hfz55_0
        try clear hfz55_1
        try clear hfz63_0
        try clear hfz63_1
        try clear hfz69_0
        try clear hfz69_1
        try clear hfz78_0
        try clear hfz78_1
        try clear hfz84_0
        try clear hfz84_1
        try clear hfz89_0
        try clear hfz89_1
        try clear hfz93_0
        try clear hfz93_1
        try clear p2
        obtain ⟨kq, x92_173, rfl, HA, HJ173, BK188, BK189, BK190, BK195, BK199, BK203, BK207, HB⟩ := hcut
        cases kq with
        | zero => exact absurd HA.out (by simp [assessorlaw46_FractionField.j3])
        | succ kj173 =>
         have H := HA.out
         clear HA
         simp only [assessorlaw46_FractionField.j3] at H
         have HC183 := Aside0.mk H
         clear H
         go_upto_if 92 with (fail)
         go_cut [] (fun wc => ∃ (kq : Nat), Aside0 (assessorlaw46_FractionField.j5 kq t194 a0_0 a0_1 a1_0 a1_1 a2_0 a2_1 t192 t193 = some r) ∧ Aside0 (kq ≤ kj173) ∧ Aside0 (wc.heap[gb188]? = some (.cells #[.int .i64 a0_0, .int .i64 a0_1] 23 (0, 0))) ∧ Aside0 (wc.heap[gb189]? = some (.cells #[.int .i64 a1_0, .int .i64 a1_1] 23 (0, 0))) ∧ Aside0 (wc.heap[gb190]? = some (.cells #[.int .i64 a2_0, .int .i64 a2_1] 23 (0, 0))) ∧ Aside0 (wc.heap[gb195]? = some (.cells #[.int .i64 t192, .int .i64 t193] 23 (0, 0))) ∧ Aside0 (wc.heap[gb199]? = some (.cells #[.int .i64 t196, .int .i64 t197] 23 (0, 0))) ∧ Aside0 (wc.heap[gb203]? = some (.cells #[.int .i64 t200, .int .i64 t201] 23 (0, 0))) ∧ Aside0 (wc.heap[gb207]? = some (.cells #[.int .i64 t204, .int .i64 t205] 23 (0, 0))) ∧ Aside0 (Below w.heap.size w wc))
         case first =>
          have H := HC183.out
          clear HC183
          by_cases c184 : x92_173 = true
          ·
           subst c184
           have H1 : ((fraction_Div.f kj173 t200 t201 a1_0 a1_1).bind fun bt212 => (if bt212.2.2 = 0 then (assessorlaw46_FractionField.j4 kj173 t194 (!(bt212.1 == a0_0) || (!(bt212.2.1 == a0_1))) a0_0 a0_1 a1_0 a1_1 a2_0 a2_1 t192 t193) else (assessorlaw46_FractionField.j4 kj173 t194 true a0_0 a0_1 a1_0 a1_1 a2_0 a2_1 t192 t193))) = some r := by rw [if_pos rfl] at H; exact H
           clear H
           have H := H1
           clear H1
           replace H := Option.bind_eq_some_iff.mp H
           obtain ⟨⟨t212, t213, t214⟩, A1850, H⟩ := H
           replace H : (if t214 = 0 then (assessorlaw46_FractionField.j4 kj173 t194 (!(t212 == a0_0) || (!(t213 == a0_1))) a0_0 a0_1 a1_0 a1_1 a2_0 a2_1 t192 t193) else (assessorlaw46_FractionField.j4 kj173 t194 true a0_0 a0_1 a1_0 a1_1 a2_0 a2_1 t192 t193)) = some r := H
           have A185 := Aside0.mk A1850
           clear A1850
           have HC186 := Aside0.mk H
           clear H
           have hnb187 := NB203_188.out
           have hnc187 := NB188_203.out
           have hnb188 := NB203_189.out
           have hnc188 := NB189_203.out
           have hnb189 := NB203_190.out
           have hnc189 := NB190_203.out
           have hnb190 := NB203_195.out
           have hnc190 := NB195_203.out
           have hnb191 := NB203_199.out
           have hnc191 := NB199_203.out
           have hnb192 := NB203_207.out
           have hnc192 := NB207_203.out
           have hcz193_0 : wc.cell? ⟨gb203, 0, none⟩ = some (.int .i64 t200) := (blk_cell BK203.out 0).trans rfl
           have hcz193_1 : wc.cell? ⟨gb203, 1, none⟩ = some (.int .i64 t201) := (blk_cell BK203.out 1).trans rfl
           have hfz193_0 := blk_frozen BK203.out 0
           have hfz193_1 := blk_frozen BK203.out 1
           have hnb194 := NB189_188.out
           have hnc194 := NB188_189.out
           have hnb195 := NB189_190.out
           have hnc195 := NB190_189.out
           have hnb196 := NB189_195.out
           have hnc196 := NB195_189.out
           have hnb197 := NB189_199.out
           have hnc197 := NB199_189.out
           have hnb198 := NB189_207.out
           have hnc198 := NB207_189.out
           have hcz199_0 : wc.cell? ⟨gb189, 0, none⟩ = some (.int .i64 a1_0) := (blk_cell BK189.out 0).trans rfl
           have hcz199_1 : wc.cell? ⟨gb189, 1, none⟩ = some (.int .i64 a1_1) := (blk_cell BK189.out 1).trans rfl
           have hfz199_0 := blk_frozen BK189.out 0
           have hfz199_1 := blk_frozen BK189.out 1
           go_upto_region 15 with (first | ((with_reducible refine gate_callee (f := 24) rfl ?_); refine goesL_ (some 96) rfl rfl Tryd.func24 (by kernel_rfl) rfl #[.agg #[.int .i64 t200, .int .i64 t201], .agg #[.int .i64 a1_0, .int .i64 a1_1]] rfl (by (try simp only [List.map_toArray, List.map_cons, List.map_nil]); first | done | rfl | (simp only [List.length_drop, List.length_take]; rfl)) ?_; (with_reducible refine (fraction_Div.calls kj173 t200 t201 a1_0 a1_1 t212 t213 t214 _ A185.out).mono ?_); rintro e w200 ⟨rfl, hb⟩; refine ⟨_, rfl, ?_⟩; have n0_ := Aside0.mk (blk_below (g := gb188) (o := .cells #[.int .i64 a0_0, .int .i64 a0_1] 23 (0, 0)) (by (with_reducible repeat first | apply b1 | apply b2 | apply b3); exact BK188.out) hb); have n1_ := Aside0.mk (blk_below (g := gb189) (o := .cells #[.int .i64 a1_0, .int .i64 a1_1] 23 (0, 0)) (by (with_reducible repeat first | apply b1 | apply b2 | apply b3); exact BK189.out) hb); have n2_ := Aside0.mk (blk_below (g := gb190) (o := .cells #[.int .i64 a2_0, .int .i64 a2_1] 23 (0, 0)) (by (with_reducible repeat first | apply b1 | apply b2 | apply b3); exact BK190.out) hb); have n3_ := Aside0.mk (blk_below (g := gb195) (o := .cells #[.int .i64 t192, .int .i64 t193] 23 (0, 0)) (by (with_reducible repeat first | apply b1 | apply b2 | apply b3); exact BK195.out) hb); have n4_ := Aside0.mk (blk_below (g := gb199) (o := .cells #[.int .i64 t196, .int .i64 t197] 23 (0, 0)) (by (with_reducible repeat first | apply b1 | apply b2 | apply b3); exact BK199.out) hb); have n5_ := Aside0.mk (blk_below (g := gb203) (o := .cells #[.int .i64 t200, .int .i64 t201] 23 (0, 0)) (by (with_reducible repeat first | apply b1 | apply b2 | apply b3); exact BK203.out) hb); have n6_ := Aside0.mk (blk_below (g := gb207) (o := .cells #[.int .i64 t204, .int .i64 t205] 23 (0, 0)) (by (with_reducible repeat first | apply b1 | apply b2 | apply b3); exact BK207.out) hb); have n7_ := Aside0.mk (below_step (by repeat (first | (with_reducible first | exact HB.out | apply b4 | apply b5 | apply b6 | refine below_set ?_ GE188.out | refine below_set ?_ GE189.out | refine below_set ?_ GE190.out | refine below_set ?_ GE195.out | refine below_set ?_ GE199.out | refine below_set ?_ GE203.out | refine below_set ?_ GE207.out) | exact HB.out)) hb); clear BK188; clear BK189; clear BK190; clear BK195; clear BK199; clear BK203; clear BK207; clear HB; have BK188 := n0_; have BK189 := n1_; have BK190 := n2_; have BK195 := n3_; have BK199 := n4_; have BK203 := n5_; have BK207 := n6_; have HB := n7_; clear n0_ n1_ n2_ n3_ n4_ n5_ n6_ n7_; (try clear hb); (try clear hb2); (try clear hk); (try clear hi)) | ((with_reducible refine gate_dst (N := 17) rfl ?_); refine box_event ?hg (N := 17) ?hd (cs := #[.int .i64 0, .int .i64 0]) (t := 23) ?hr ?_; (case hd => rfl); (case hg => rfl); (case hr => first | (go_simp; done) | (go_simp; rfl)); intro gb215 hg w201 hbox hb; have n0_ := Aside0.mk (blk_below (g := gb188) (o := .cells #[.int .i64 a0_0, .int .i64 a0_1] 23 (0, 0)) (by (with_reducible repeat first | apply b1 | apply b2 | apply b3); exact BK188.out) hb); have n1_ := Aside0.mk (blk_below (g := gb189) (o := .cells #[.int .i64 a1_0, .int .i64 a1_1] 23 (0, 0)) (by (with_reducible repeat first | apply b1 | apply b2 | apply b3); exact BK189.out) hb); have n2_ := Aside0.mk (blk_below (g := gb190) (o := .cells #[.int .i64 a2_0, .int .i64 a2_1] 23 (0, 0)) (by (with_reducible repeat first | apply b1 | apply b2 | apply b3); exact BK190.out) hb); have n3_ := Aside0.mk (blk_below (g := gb195) (o := .cells #[.int .i64 t192, .int .i64 t193] 23 (0, 0)) (by (with_reducible repeat first | apply b1 | apply b2 | apply b3); exact BK195.out) hb); have n4_ := Aside0.mk (blk_below (g := gb199) (o := .cells #[.int .i64 t196, .int .i64 t197] 23 (0, 0)) (by (with_reducible repeat first | apply b1 | apply b2 | apply b3); exact BK199.out) hb); have n5_ := Aside0.mk (blk_below (g := gb203) (o := .cells #[.int .i64 t200, .int .i64 t201] 23 (0, 0)) (by (with_reducible repeat first | apply b1 | apply b2 | apply b3); exact BK203.out) hb); have n6_ := Aside0.mk (blk_below (g := gb207) (o := .cells #[.int .i64 t204, .int .i64 t205] 23 (0, 0)) (by (with_reducible repeat first | apply b1 | apply b2 | apply b3); exact BK207.out) hb); have n7_ := Aside0.mk (below_step (by repeat (first | (with_reducible first | exact HB.out | apply b4 | apply b5 | apply b6 | refine below_set ?_ GE188.out | refine below_set ?_ GE189.out | refine below_set ?_ GE190.out | refine below_set ?_ GE195.out | refine below_set ?_ GE199.out | refine below_set ?_ GE203.out | refine below_set ?_ GE207.out) | exact HB.out)) hb); have n8_ := Aside0.mk (hbox); have n9_ := Aside0.mk ((by rw [hg]; exact (below_size (by repeat (first | (with_reducible first | exact HB.out | apply b4 | apply b5 | apply b6 | refine below_set ?_ GE188.out | refine below_set ?_ GE189.out | refine below_set ?_ GE190.out | refine below_set ?_ GE195.out | refine below_set ?_ GE199.out | refine below_set ?_ GE203.out | refine below_set ?_ GE207.out) | exact HB.out))) : w.heap.size ≤ gb215)); have n10_ := Aside0.mk ((by rw [hg]; exact (below_size (by repeat (first | (with_reducible first | exact HB.out | apply b4 | apply b5 | apply b6 | refine below_set ?_ GE188.out | refine below_set ?_ GE189.out | refine below_set ?_ GE190.out | refine below_set ?_ GE195.out | refine below_set ?_ GE199.out | refine below_set ?_ GE203.out | refine below_set ?_ GE207.out) | exact HB.out))) : w.heap.size ≤ gb215)); have n11_ := Aside0.mk ((by rw [hg]; exact Nat.ne_of_lt (blk_lt (g := gb188) (o := .cells #[.int .i64 a0_0, .int .i64 a0_1] 23 (0, 0)) (by (with_reducible repeat first | apply b1 | apply b2 | apply b3); exact BK188.out)) : gb188 ≠ gb215)); have n12_ := Aside0.mk ((by rw [hg]; exact Nat.ne_of_gt (blk_lt (g := gb188) (o := .cells #[.int .i64 a0_0, .int .i64 a0_1] 23 (0, 0)) (by (with_reducible repeat first | apply b1 | apply b2 | apply b3); exact BK188.out)) : gb215 ≠ gb188)); have n13_ := Aside0.mk ((by rw [hg]; exact Nat.ne_of_lt (blk_lt (g := gb189) (o := .cells #[.int .i64 a1_0, .int .i64 a1_1] 23 (0, 0)) (by (with_reducible repeat first | apply b1 | apply b2 | apply b3); exact BK189.out)) : gb189 ≠ gb215)); have n14_ := Aside0.mk ((by rw [hg]; exact Nat.ne_of_gt (blk_lt (g := gb189) (o := .cells #[.int .i64 a1_0, .int .i64 a1_1] 23 (0, 0)) (by (with_reducible repeat first | apply b1 | apply b2 | apply b3); exact BK189.out)) : gb215 ≠ gb189)); have n15_ := Aside0.mk ((by rw [hg]; exact Nat.ne_of_lt (blk_lt (g := gb190) (o := .cells #[.int .i64 a2_0, .int .i64 a2_1] 23 (0, 0)) (by (with_reducible repeat first | apply b1 | apply b2 | apply b3); exact BK190.out)) : gb190 ≠ gb215)); have n16_ := Aside0.mk ((by rw [hg]; exact Nat.ne_of_gt (blk_lt (g := gb190) (o := .cells #[.int .i64 a2_0, .int .i64 a2_1] 23 (0, 0)) (by (with_reducible repeat first | apply b1 | apply b2 | apply b3); exact BK190.out)) : gb215 ≠ gb190)); have n17_ := Aside0.mk ((by rw [hg]; exact Nat.ne_of_lt (blk_lt (g := gb195) (o := .cells #[.int .i64 t192, .int .i64 t193] 23 (0, 0)) (by (with_reducible repeat first | apply b1 | apply b2 | apply b3); exact BK195.out)) : gb195 ≠ gb215)); have n18_ := Aside0.mk ((by rw [hg]; exact Nat.ne_of_gt (blk_lt (g := gb195) (o := .cells #[.int .i64 t192, .int .i64 t193] 23 (0, 0)) (by (with_reducible repeat first | apply b1 | apply b2 | apply b3); exact BK195.out)) : gb215 ≠ gb195)); have n19_ := Aside0.mk ((by rw [hg]; exact Nat.ne_of_lt (blk_lt (g := gb199) (o := .cells #[.int .i64 t196, .int .i64 t197] 23 (0, 0)) (by (with_reducible repeat first | apply b1 | apply b2 | apply b3); exact BK199.out)) : gb199 ≠ gb215)); have n20_ := Aside0.mk ((by rw [hg]; exact Nat.ne_of_gt (blk_lt (g := gb199) (o := .cells #[.int .i64 t196, .int .i64 t197] 23 (0, 0)) (by (with_reducible repeat first | apply b1 | apply b2 | apply b3); exact BK199.out)) : gb215 ≠ gb199)); have n21_ := Aside0.mk ((by rw [hg]; exact Nat.ne_of_lt (blk_lt (g := gb203) (o := .cells #[.int .i64 t200, .int .i64 t201] 23 (0, 0)) (by (with_reducible repeat first | apply b1 | apply b2 | apply b3); exact BK203.out)) : gb203 ≠ gb215)); have n22_ := Aside0.mk ((by rw [hg]; exact Nat.ne_of_gt (blk_lt (g := gb203) (o := .cells #[.int .i64 t200, .int .i64 t201] 23 (0, 0)) (by (with_reducible repeat first | apply b1 | apply b2 | apply b3); exact BK203.out)) : gb215 ≠ gb203)); have n23_ := Aside0.mk ((by rw [hg]; exact Nat.ne_of_lt (blk_lt (g := gb207) (o := .cells #[.int .i64 t204, .int .i64 t205] 23 (0, 0)) (by (with_reducible repeat first | apply b1 | apply b2 | apply b3); exact BK207.out)) : gb207 ≠ gb215)); have n24_ := Aside0.mk ((by rw [hg]; exact Nat.ne_of_gt (blk_lt (g := gb207) (o := .cells #[.int .i64 t204, .int .i64 t205] 23 (0, 0)) (by (with_reducible repeat first | apply b1 | apply b2 | apply b3); exact BK207.out)) : gb215 ≠ gb207)); clear BK188; clear BK189; clear BK190; clear BK195; clear BK199; clear BK203; clear BK207; clear HB; have BK188 := n0_; have BK189 := n1_; have BK190 := n2_; have BK195 := n3_; have BK199 := n4_; have BK203 := n5_; have BK207 := n6_; have HB := n7_; have BK215 := n8_; have GW215 := n9_; have GE215 := n10_; have NB188_215 := n11_; have NB215_188 := n12_; have NB189_215 := n13_; have NB215_189 := n14_; have NB190_215 := n15_; have NB215_190 := n16_; have NB195_215 := n17_; have NB215_195 := n18_; have NB199_215 := n19_; have NB215_199 := n20_; have NB203_215 := n21_; have NB215_203 := n22_; have NB207_215 := n23_; have NB215_207 := n24_; clear n0_ n1_ n2_ n3_ n4_ n5_ n6_ n7_ n8_ n9_ n10_ n11_ n12_ n13_ n14_ n15_ n16_ n17_ n18_ n19_ n20_ n21_ n22_ n23_ n24_; clear hb hbox hg; have hnb202 := NB215_188.out; have hnc202 := NB188_215.out; have hnb203 := NB215_189.out; have hnc203 := NB189_215.out; have hnb204 := NB215_190.out; have hnc204 := NB190_215.out; have hnb205 := NB215_195.out; have hnc205 := NB195_215.out; have hnb206 := NB215_199.out; have hnc206 := NB199_215.out; have hnb207 := NB215_203.out; have hnc207 := NB203_215.out; have hnb208 := NB215_207.out; have hnc208 := NB207_215.out; have hcz209_0 : w201.cell? ⟨gb215, 0, none⟩ = some (.int .i64 0) := (blk_cell BK215.out 0).trans rfl; have hcz209_1 : w201.cell? ⟨gb215, 1, none⟩ = some (.int .i64 0) := (blk_cell BK215.out 1).trans rfl; have hfz209_0 := blk_frozen BK215.out 0; have hfz209_1 := blk_frozen BK215.out 1))
           (try simp only [Act.put, List.setIfInBounds_toArray, List.set_cons_zero, List.set_cons_succ])
           go_cut [105] (fun v105 wc => ∃ (kq : Nat) (x105_185 : Bool), v105 = .bool x105_185 ∧ Aside0 (assessorlaw46_FractionField.j4 kq t194 x105_185 a0_0 a0_1 a1_0 a1_1 a2_0 a2_1 t192 t193 = some r) ∧ Aside0 (kq ≤ kj173) ∧ Aside0 (wc.heap[gb188]? = some (.cells #[.int .i64 a0_0, .int .i64 a0_1] 23 (0, 0))) ∧ Aside0 (wc.heap[gb189]? = some (.cells #[.int .i64 a1_0, .int .i64 a1_1] 23 (0, 0))) ∧ Aside0 (wc.heap[gb190]? = some (.cells #[.int .i64 a2_0, .int .i64 a2_1] 23 (0, 0))) ∧ Aside0 (wc.heap[gb195]? = some (.cells #[.int .i64 t192, .int .i64 t193] 23 (0, 0))) ∧ Aside0 (wc.heap[gb199]? = some (.cells #[.int .i64 t196, .int .i64 t197] 23 (0, 0))) ∧ Aside0 (wc.heap[gb203]? = some (.cells #[.int .i64 t200, .int .i64 t201] 23 (0, 0))) ∧ Aside0 (wc.heap[gb207]? = some (.cells #[.int .i64 t204, .int .i64 t205] 23 (0, 0))) ∧ Aside0 (wc.heap[gb215]? = some (.cells #[.int .i64 t212, .int .i64 t213] 23 (0, 0))) ∧ Aside0 (Below w.heap.size w wc))
           case first =>
            have H := HC186.out
            clear HC186
            by_cases c210 : t214 = 0
            ·
             rw [if_pos c210] at H
             have c210b0 : (t214 == 0) = true := beq_iff_eq.mpr c210
             have c210b1 : (t214 != 0) = false := bne_eq_false_iff_eq.mpr c210
             clear c210
             (first | rw [c210b0] | (simp only [i64_w, i32_w]; rw [c210b0]) | skip)
             have H' := Aside0.mk H
             clear H
             have hnb211 := NB215_188.out
             have hnc211 := NB188_215.out
             have hnb212 := NB215_189.out
             have hnc212 := NB189_215.out
             have hnb213 := NB215_190.out
             have hnc213 := NB190_215.out
             have hnb214 := NB215_195.out
             have hnc214 := NB195_215.out
             have hnb215 := NB215_199.out
             have hnc215 := NB199_215.out
             have hnb216 := NB215_203.out
             have hnc216 := NB203_215.out
             have hnb217 := NB215_207.out
             have hnc217 := NB207_215.out
             have hcz218_0 : w201.cell? ⟨gb215, 0, none⟩ = some (.int .i64 0) := (blk_cell BK215.out 0).trans rfl
             have hcz218_1 : w201.cell? ⟨gb215, 1, none⟩ = some (.int .i64 0) := (blk_cell BK215.out 1).trans rfl
             have hfz218_0 := blk_frozen BK215.out 0
             have hfz218_1 := blk_frozen BK215.out 1
             have hnb219 := NB188_189.out
             have hnc219 := NB189_188.out
             have hnb220 := NB188_190.out
             have hnc220 := NB190_188.out
             have hnb221 := NB188_195.out
             have hnc221 := NB195_188.out
             have hnb222 := NB188_199.out
             have hnc222 := NB199_188.out
             have hnb223 := NB188_203.out
             have hnc223 := NB203_188.out
             have hnb224 := NB188_207.out
             have hnc224 := NB207_188.out
             have hcz225_0 : w201.cell? ⟨gb188, 0, none⟩ = some (.int .i64 a0_0) := (blk_cell BK188.out 0).trans rfl
             have hcz225_1 : w201.cell? ⟨gb188, 1, none⟩ = some (.int .i64 a0_1) := (blk_cell BK188.out 1).trans rfl
             have hfz225_0 := blk_frozen BK188.out 0
             have hfz225_1 := blk_frozen BK188.out 1
             go_wp2
             go_meet
             case rel => exact ⟨_, ((!(t212 == a0_0) || (!(t213 == a0_1)))), (by first | rfl | (simp; done) | (simp [*]; done)), H', ⟨by have := HJ9.out; have := HJ129.out; have := HJ173.out; first | omega | exact Nat.le_refl _⟩, ⟨by (with_reducible repeat first | apply b1 | apply b2 | apply b3); refine blk_far ?_ NB188_215.out _; (with_reducible repeat first | apply b1 | apply b2 | apply b3); refine blk_far ?_ NB188_215.out _; (with_reducible repeat first | apply b1 | apply b2 | apply b3); exact BK188.out⟩, ⟨by (with_reducible repeat first | apply b1 | apply b2 | apply b3); refine blk_far ?_ NB189_215.out _; (with_reducible repeat first | apply b1 | apply b2 | apply b3); refine blk_far ?_ NB189_215.out _; (with_reducible repeat first | apply b1 | apply b2 | apply b3); exact BK189.out⟩, ⟨by (with_reducible repeat first | apply b1 | apply b2 | apply b3); refine blk_far ?_ NB190_215.out _; (with_reducible repeat first | apply b1 | apply b2 | apply b3); refine blk_far ?_ NB190_215.out _; (with_reducible repeat first | apply b1 | apply b2 | apply b3); exact BK190.out⟩, ⟨by (with_reducible repeat first | apply b1 | apply b2 | apply b3); refine blk_far ?_ NB195_215.out _; (with_reducible repeat first | apply b1 | apply b2 | apply b3); refine blk_far ?_ NB195_215.out _; (with_reducible repeat first | apply b1 | apply b2 | apply b3); exact BK195.out⟩, ⟨by (with_reducible repeat first | apply b1 | apply b2 | apply b3); refine blk_far ?_ NB199_215.out _; (with_reducible repeat first | apply b1 | apply b2 | apply b3); refine blk_far ?_ NB199_215.out _; (with_reducible repeat first | apply b1 | apply b2 | apply b3); exact BK199.out⟩, ⟨by (with_reducible repeat first | apply b1 | apply b2 | apply b3); refine blk_far ?_ NB203_215.out _; (with_reducible repeat first | apply b1 | apply b2 | apply b3); refine blk_far ?_ NB203_215.out _; (with_reducible repeat first | apply b1 | apply b2 | apply b3); exact BK203.out⟩, ⟨by (with_reducible repeat first | apply b1 | apply b2 | apply b3); refine blk_far ?_ NB207_215.out _; (with_reducible repeat first | apply b1 | apply b2 | apply b3); refine blk_far ?_ NB207_215.out _; (with_reducible repeat first | apply b1 | apply b2 | apply b3); exact BK207.out⟩, ⟨by (with_reducible repeat first | apply b1 | apply b2 | apply b3); refine blk_put (cs := #[.int .i64 t212, .int .i64 0]) ?_ 1 _ rfl; (with_reducible repeat first | apply b1 | apply b2 | apply b3); refine blk_put (cs := #[.int .i64 0, .int .i64 0]) ?_ 0 _ rfl; (with_reducible repeat first | apply b1 | apply b2 | apply b3); exact BK215.out⟩, ⟨by repeat (first | (with_reducible first | exact HB.out | apply b4 | apply b5 | apply b6 | refine below_set ?_ GE188.out | refine below_set ?_ GE189.out | refine below_set ?_ GE190.out | refine below_set ?_ GE195.out | refine below_set ?_ GE199.out | refine below_set ?_ GE203.out | refine below_set ?_ GE207.out | refine below_set ?_ GE215.out) | exact HB.out)⟩⟩
            ·
             rw [if_neg c210] at H
             have c210b0 : (t214 == 0) = false := beq_eq_false_iff_ne.mpr c210
             have c210b1 : (t214 != 0) = true := bne_iff_ne.mpr c210
             (first | rw [c210b0] | (simp only [i64_w, i32_w]; rw [c210b0]) | skip)
             have H' := Aside0.mk H
             clear H
             go_wp2
             go_meet
             case rel => exact ⟨_, (true), (by first | rfl | (simp; done) | (simp [*]; done)), H', ⟨by have := HJ9.out; have := HJ129.out; have := HJ173.out; first | omega | exact Nat.le_refl _⟩, ⟨by (with_reducible repeat first | apply b1 | apply b2 | apply b3); refine blk_far ?_ NB188_215.out _; (with_reducible repeat first | apply b1 | apply b2 | apply b3); refine blk_far ?_ NB188_215.out _; (with_reducible repeat first | apply b1 | apply b2 | apply b3); exact BK188.out⟩, ⟨by (with_reducible repeat first | apply b1 | apply b2 | apply b3); refine blk_far ?_ NB189_215.out _; (with_reducible repeat first | apply b1 | apply b2 | apply b3); refine blk_far ?_ NB189_215.out _; (with_reducible repeat first | apply b1 | apply b2 | apply b3); exact BK189.out⟩, ⟨by (with_reducible repeat first | apply b1 | apply b2 | apply b3); refine blk_far ?_ NB190_215.out _; (with_reducible repeat first | apply b1 | apply b2 | apply b3); refine blk_far ?_ NB190_215.out _; (with_reducible repeat first | apply b1 | apply b2 | apply b3); exact BK190.out⟩, ⟨by (with_reducible repeat first | apply b1 | apply b2 | apply b3); refine blk_far ?_ NB195_215.out _; (with_reducible repeat first | apply b1 | apply b2 | apply b3); refine blk_far ?_ NB195_215.out _; (with_reducible repeat first | apply b1 | apply b2 | apply b3); exact BK195.out⟩, ⟨by (with_reducible repeat first | apply b1 | apply b2 | apply b3); refine blk_far ?_ NB199_215.out _; (with_reducible repeat first | apply b1 | apply b2 | apply b3); refine blk_far ?_ NB199_215.out _; (with_reducible repeat first | apply b1 | apply b2 | apply b3); exact BK199.out⟩, ⟨by (with_reducible repeat first | apply b1 | apply b2 | apply b3); refine blk_far ?_ NB203_215.out _; (with_reducible repeat first | apply b1 | apply b2 | apply b3); refine blk_far ?_ NB203_215.out _; (with_reducible repeat first | apply b1 | apply b2 | apply b3); exact BK203.out⟩, ⟨by (with_reducible repeat first | apply b1 | apply b2 | apply b3); refine blk_far ?_ NB207_215.out _; (with_reducible repeat first | apply b1 | apply b2 | apply b3); refine blk_far ?_ NB207_215.out _; (with_reducible repeat first | apply b1 | apply b2 | apply b3); exact BK207.out⟩, ⟨by (with_reducible repeat first | apply b1 | apply b2 | apply b3); refine blk_put (cs := #[.int .i64 t212, .int .i64 0]) ?_ 1 _ rfl; (with_reducible repeat first | apply b1 | apply b2 | apply b3); refine blk_put (cs := #[.int .i64 0, .int .i64 0]) ?_ 0 _ rfl; (with_reducible repeat first | apply b1 | apply b2 | apply b3); exact BK215.out⟩, ⟨by repeat (first | (with_reducible first | exact HB.out | apply b4 | apply b5 | apply b6 | refine below_set ?_ GE188.out | refine below_set ?_ GE189.out | refine below_set ?_ GE190.out | refine below_set ?_ GE195.out | refine below_set ?_ GE199.out | refine below_set ?_ GE203.out | refine below_set ?_ GE207.out | refine below_set ?_ GE215.out) | exact HB.out)⟩⟩
           case rest =>
            clear HC186
            try clear c1
            try clear c2
            try clear p2
            try clear c3
            try clear c4
            try clear c5
            try clear c6
            try clear c7
            try clear c8
            try clear c9
            try clear c10
            try clear c11
            try clear c12
            try clear c13
            try clear c14
            try clear c15
            try clear c16
            try clear c17
            try clear c18
            try clear c19
            try clear c20
            try clear c21
            try clear c22
            try clear c23
            try clear c24
            try clear c30
            try clear c31
            try clear c32
            try clear c33
            try clear c39
            try clear c40
            try clear c41
            try clear c42
            try clear c43
            try clear c49
            try clear c50
            try clear c51
            try clear c52
            try clear c53
            try clear c54
            try clear c56
            try clear c56b0
            try clear c57
            try clear c58
            try clear c59
            try clear c60
            try clear c61
            try clear c62
            try clear c64
            try clear c65
            try clear c66
            try clear c67
            try clear c68
            try clear c70
            try clear c70b0
            try clear c70b1
            try clear c71
            try clear c71b0
            try clear c72
            try clear c73
            try clear c74
            try clear c75
            try clear c76
            try clear c77
            try clear c79
            try clear c80
            try clear c81
            try clear c82
            try clear c83
            try clear c85
            try clear c86
            try clear c87
            try clear c88
            try clear c90
            try clear c91
            try clear c92
            try clear c94
            try clear c95
            try clear c96
            try clear c97
            try clear c98
            try clear c99
            try clear c101
            try clear c102
            try clear c103
            try clear c104
            try clear c105
            try clear c107
            try clear c108
            try clear c109
            try clear c110
            try clear c112
            try clear c113
            try clear c114
            try clear c116
            try clear c117
            try clear c118
            try clear c119
            try clear c120
            try clear c121
            try clear c123
            try clear c124
            try clear c125
            try clear c126
            try clear c127
            try clear c129
            try clear c131
            try clear c131b0
            try clear c131b1
            try clear c134
            try clear c135
            try clear c136
            try clear c137
            try clear c138
            try clear c139
            try clear c141
            try clear c142
            try clear c143
            try clear c144
            try clear c145
            try clear c149
            try clear c150
            try clear c151
            try clear c152
            try clear c153
            try clear c154
            try clear c155
            try clear c157
            try clear c157b0
            try clear c157b1
            try clear c158
            try clear c159
            try clear c160
            try clear c161
            try clear c162
            try clear c163
            try clear c164
            try clear c166
            try clear c167
            try clear c168
            try clear c169
            try clear c170
            try clear c171
            try clear c173
            try clear c175
            try clear c175b0
            try clear c175b1
            try clear c176
            try clear c177
            try clear c178
            try clear c179
            try clear c180
            try clear c181
            try clear c184
            try clear c187
            try clear c188
            try clear c189
            try clear c190
            try clear c191
            try clear c192
            try clear c194
            try clear c195
            try clear c196
            try clear c197
            try clear c198
            try clear c202
            try clear c203
            try clear c204
            try clear c205
            try clear c206
            try clear c207
            try clear c208
            try clear c210
            try clear c210b0
            try clear c210b1
            try clear c211
            try clear c212
            try clear c213
            try clear c214
            try clear c215
            try clear c216
            try clear c217
            try clear c219
            try clear c220
            try clear c221
            try clear c222
            try clear c223
            try clear c224
            try clear hcz100_0
            try clear hcz100_1
            try clear hcz106_0
            try clear hcz106_1
            try clear hcz111_0
            try clear hcz111_1
            try clear hcz115_0
            try clear hcz115_1
            try clear hcz122_0
            try clear hcz122_1
            try clear hcz128_0
            try clear hcz128_1
            try clear hcz140_0
            try clear hcz140_1
            try clear hcz146_0
            try clear hcz146_1
            try clear hcz156_0
            try clear hcz156_1
            try clear hcz165_0
            try clear hcz165_1
            try clear hcz172_0
            try clear hcz172_1
            try clear hcz17_0
            try clear hcz17_1
            try clear hcz182_0
            try clear hcz182_1
            try clear hcz193_0
            try clear hcz193_1
            try clear hcz199_0
            try clear hcz199_1
            try clear hcz19_0
            try clear hcz19_1
            try clear hcz209_0
            try clear hcz209_1
            try clear hcz218_0
            try clear hcz218_1
            try clear hcz225_0
            try clear hcz225_1
            try clear hcz25_0
            try clear hcz25_1
            try clear hcz26_0
            try clear hcz26_1
            try clear hcz27_0
            try clear hcz27_1
            try clear hcz34_0
            try clear hcz34_1
            try clear hcz35_0
            try clear hcz35_1
            try clear hcz36_0
            try clear hcz36_1
            try clear hcz44_0
            try clear hcz44_1
            try clear hcz45_0
            try clear hcz45_1
            try clear hcz46_0
            try clear hcz46_1
            try clear hcz55_0
            try clear hcz55_1
            try clear hcz63_0
            try clear hcz63_1
            try clear hcz69_0
            try clear hcz69_1
            try clear hcz78_0
            try clear hcz78_1
            try clear hcz84_0
            try clear hcz84_1
            try clear hcz89_0
            try clear hcz89_1
            try clear hcz93_0
            try clear hcz93_1
            try clear hfz100_0
            try clear hfz100_1
            try clear hfz106_0
            try clear hfz106_1
            try clear hfz111_0
            try clear hfz111_1
            try clear hfz115_0
            try clear hfz115_1
            try clear hfz122_0
            try clear hfz122_1
            try clear hfz128_0
            try clear hfz128_1
            try clear hfz140_0
            try clear hfz140_1
            try clear hfz146_0
            try clear hfz146_1
            try clear hfz156_0
            try clear hfz156_1
            try clear hfz165_0
            try clear hfz165_1
            try clear hfz172_0
            try clear hfz172_1
            try clear hfz17_0
            try clear hfz17_1
            try clear hfz182_0
            try clear hfz182_1
            try clear hfz193_0
            try clear hfz193_1
            try clear hfz199_0
            try clear hfz199_1
            try clear hfz19_0
            try clear hfz19_1
            try clear hfz209_0
            try clear hfz209_1
            try clear hfz218_0
            try clear hfz218_1
            try clear hfz225_0
            try clear hfz225_1
            try clear hfz25_0
            try clear hfz25_1
            try clear hfz26_0
            try clear hfz26_1
            try clear hfz27_0
            try clear hfz27_1
            try clear hfz34_0
            try clear hfz34_1
            try clear hfz35_0
            try clear hfz35_1
            try clear hfz36_0
            try clear hfz36_1
            try clear hfz44_0
            try clear hfz44_1
            try clear hfz45_0
            try clear hfz45_1
            try clear hfz46_0
            try clear hfz46_1
            try clear hfz55_0
            try clear hfz55_1
            try clear hfz63_0
            try clear hfz63_1
            try clear hfz69_0
            try clear hfz69_1
            try clear hfz78_0
            try clear hfz78_1
            try clear hfz84_0
            try clear hfz84_1
            try clear hfz89_0
            try clear hfz89_1
            try clear hfz93_0
            try clear hfz93_1
            try clear p2
            obtain ⟨kq, x105_185, rfl, HA, HJ185, BK188, BK189, BK190, BK195, BK199, BK203, BK207, BK215, HB⟩ := hcut
            cases kq with
            | zero => exact absurd HA.out (by simp [assessorlaw46_FractionField.j4])
            | succ kj185 =>
             have H := HA.out
             clear HA
             simp only [assessorlaw46_FractionField.j4] at H
             by_cases c226 : x105_185 = true
             ·
              subst c226
              have H1 : (some false) = some r := by rw [if_pos rfl] at H; exact H
              clear H
              have H := H1
              clear H1
              obtain rfl := Option.some.inj H
              exact absurd hr_.out (by simp)
             ·
              replace c226 := Bool.eq_false_iff.mpr c226
              subst c226
              have H1 : (assessorlaw46_FractionField.j5 kj185 t194 a0_0 a0_1 a1_0 a1_1 a2_0 a2_1 t192 t193) = some r := by rw [if_neg (show ¬ (false = true) by decide)] at H; exact H
              clear H
              have H := H1
              clear H1
              have H' := Aside0.mk H
              clear H
              go_wp2
              go_meet
              case rel => exact ⟨_, H', ⟨by have := HJ9.out; have := HJ129.out; have := HJ173.out; have := HJ185.out; first | omega | exact Nat.le_refl _⟩, ⟨by (with_reducible repeat first | apply b1 | apply b2 | apply b3); exact BK188.out⟩, ⟨by (with_reducible repeat first | apply b1 | apply b2 | apply b3); exact BK189.out⟩, ⟨by (with_reducible repeat first | apply b1 | apply b2 | apply b3); exact BK190.out⟩, ⟨by (with_reducible repeat first | apply b1 | apply b2 | apply b3); exact BK195.out⟩, ⟨by (with_reducible repeat first | apply b1 | apply b2 | apply b3); exact BK199.out⟩, ⟨by (with_reducible repeat first | apply b1 | apply b2 | apply b3); exact BK203.out⟩, ⟨by (with_reducible repeat first | apply b1 | apply b2 | apply b3); exact BK207.out⟩, ⟨by repeat (first | (with_reducible first | exact HB.out | apply b4 | apply b5 | apply b6 | refine below_set ?_ GE188.out | refine below_set ?_ GE189.out | refine below_set ?_ GE190.out | refine below_set ?_ GE195.out | refine below_set ?_ GE199.out | refine below_set ?_ GE203.out | refine below_set ?_ GE207.out | refine below_set ?_ GE215.out) | exact HB.out)⟩⟩
          ·
           replace c184 := Bool.eq_false_iff.mpr c184
           subst c184
           have H1 : (assessorlaw46_FractionField.j5 kj173 t194 a0_0 a0_1 a1_0 a1_1 a2_0 a2_1 t192 t193) = some r := by rw [if_neg (show ¬ (false = true) by decide)] at H; exact H
           clear H
           have H := H1
           clear H1
           have H' := Aside0.mk H
           clear H
           go_wp2
           go_meet
           case rel => exact ⟨_, H', ⟨by have := HJ9.out; have := HJ129.out; have := HJ173.out; first | omega | exact Nat.le_refl _⟩, ⟨by (with_reducible repeat first | apply b1 | apply b2 | apply b3); exact BK188.out⟩, ⟨by (with_reducible repeat first | apply b1 | apply b2 | apply b3); exact BK189.out⟩, ⟨by (with_reducible repeat first | apply b1 | apply b2 | apply b3); exact BK190.out⟩, ⟨by (with_reducible repeat first | apply b1 | apply b2 | apply b3); exact BK195.out⟩, ⟨by (with_reducible repeat first | apply b1 | apply b2 | apply b3); exact BK199.out⟩, ⟨by (with_reducible repeat first | apply b1 | apply b2 | apply b3); exact BK203.out⟩, ⟨by (with_reducible repeat first | apply b1 | apply b2 | apply b3); exact BK207.out⟩, ⟨by repeat (first | (with_reducible first | exact HB.out | apply b4 | apply b5 | apply b6 | refine below_set ?_ GE188.out | refine below_set ?_ GE189.out | refine below_set ?_ GE190.out | refine below_set ?_ GE195.out | refine below_set ?_ GE199.out | refine below_set ?_ GE203.out | refine below_set ?_ GE207.out) | exact HB.out)⟩⟩
         case rest =>
          clear HC183
          try clear c1
          try clear c2
          try clear p2
          try clear c3
          try clear c4
          try clear c5
          try clear c6
          try clear c7
          try clear c8
          try clear c9
          try clear c10
          try clear c11
          try clear c12
          try clear c13
          try clear c14
          try clear c15
          try clear c16
          try clear c17
          try clear c18
          try clear c19
          try clear c20
          try clear c21
          try clear c22
          try clear c23
          try clear c24
          try clear c30
          try clear c31
          try clear c32
          try clear c33
          try clear c39
          try clear c40
          try clear c41
          try clear c42
          try clear c43
          try clear c49
          try clear c50
          try clear c51
          try clear c52
          try clear c53
          try clear c54
          try clear c56
          try clear c56b0
          try clear c57
          try clear c58
          try clear c59
          try clear c60
          try clear c61
          try clear c62
          try clear c64
          try clear c65
          try clear c66
          try clear c67
          try clear c68
          try clear c70
          try clear c70b0
          try clear c70b1
          try clear c71
          try clear c71b0
          try clear c72
          try clear c73
          try clear c74
          try clear c75
          try clear c76
          try clear c77
          try clear c79
          try clear c80
          try clear c81
          try clear c82
          try clear c83
          try clear c85
          try clear c86
          try clear c87
          try clear c88
          try clear c90
          try clear c91
          try clear c92
          try clear c94
          try clear c95
          try clear c96
          try clear c97
          try clear c98
          try clear c99
          try clear c101
          try clear c102
          try clear c103
          try clear c104
          try clear c105
          try clear c107
          try clear c108
          try clear c109
          try clear c110
          try clear c112
          try clear c113
          try clear c114
          try clear c116
          try clear c117
          try clear c118
          try clear c119
          try clear c120
          try clear c121
          try clear c123
          try clear c124
          try clear c125
          try clear c126
          try clear c127
          try clear c129
          try clear c131
          try clear c131b0
          try clear c131b1
          try clear c134
          try clear c135
          try clear c136
          try clear c137
          try clear c138
          try clear c139
          try clear c141
          try clear c142
          try clear c143
          try clear c144
          try clear c145
          try clear c149
          try clear c150
          try clear c151
          try clear c152
          try clear c153
          try clear c154
          try clear c155
          try clear c157
          try clear c157b0
          try clear c157b1
          try clear c158
          try clear c159
          try clear c160
          try clear c161
          try clear c162
          try clear c163
          try clear c164
          try clear c166
          try clear c167
          try clear c168
          try clear c169
          try clear c170
          try clear c171
          try clear c173
          try clear c175
          try clear c175b0
          try clear c175b1
          try clear c176
          try clear c177
          try clear c178
          try clear c179
          try clear c180
          try clear c181
          try clear c184
          try clear c187
          try clear c188
          try clear c189
          try clear c190
          try clear c191
          try clear c192
          try clear c194
          try clear c195
          try clear c196
          try clear c197
          try clear c198
          try clear c202
          try clear c203
          try clear c204
          try clear c205
          try clear c206
          try clear c207
          try clear c208
          try clear c210
          try clear c210b0
          try clear c210b1
          try clear c211
          try clear c212
          try clear c213
          try clear c214
          try clear c215
          try clear c216
          try clear c217
          try clear c219
          try clear c220
          try clear c221
          try clear c222
          try clear c223
          try clear c224
          try clear c226
          try clear hcz100_0
          try clear hcz100_1
          try clear hcz106_0
          try clear hcz106_1
          try clear hcz111_0
          try clear hcz111_1
          try clear hcz115_0
          try clear hcz115_1
          try clear hcz122_0
          try clear hcz122_1
          try clear hcz128_0
          try clear hcz128_1
          try clear hcz140_0
          try clear hcz140_1
          try clear hcz146_0
          try clear hcz146_1
          try clear hcz156_0
          try clear hcz156_1
          try clear hcz165_0
          try clear hcz165_1
          try clear hcz172_0
          try clear hcz172_1
          try clear hcz17_0
          try clear hcz17_1
          try clear hcz182_0
          try clear hcz182_1
          try clear hcz193_0
          try clear hcz193_1
          try clear hcz199_0
          try clear hcz199_1
          try clear hcz19_0
          try clear hcz19_1
          try clear hcz209_0
          try clear hcz209_1
          try clear hcz218_0
          try clear hcz218_1
          try clear hcz225_0
          try clear hcz225_1
          try clear hcz25_0
          try clear hcz25_1
          try clear hcz26_0
          try clear hcz26_1
          try clear hcz27_0
          try clear hcz27_1
          try clear hcz34_0
          try clear hcz34_1
          try clear hcz35_0
          try clear hcz35_1
          try clear hcz36_0
          try clear hcz36_1
          try clear hcz44_0
          try clear hcz44_1
          try clear hcz45_0
          try clear hcz45_1
          try clear hcz46_0
          try clear hcz46_1
          try clear hcz55_0
          try clear hcz55_1
          try clear hcz63_0
          try clear hcz63_1
          try clear hcz69_0
          try clear hcz69_1
          try clear hcz78_0
          try clear hcz78_1
          try clear hcz84_0
          try clear hcz84_1
          try clear hcz89_0
          try clear hcz89_1
          try clear hcz93_0
          try clear hcz93_1
          try clear hfz100_0
          try clear hfz100_1
          try clear hfz106_0
          try clear hfz106_1
          try clear hfz111_0
          try clear hfz111_1
          try clear hfz115_0
          try clear hfz115_1
          try clear hfz122_0
          try clear hfz122_1
          try clear hfz128_0
          try clear hfz128_1
          try clear hfz140_0
          try clear hfz140_1
          try clear hfz146_0
          try clear hfz146_1
          try clear hfz156_0
          try clear hfz156_1
          try clear hfz165_0
          try clear hfz165_1
          try clear hfz172_0
          try clear hfz172_1
          try clear hfz17_0
          try clear hfz17_1
          try clear hfz182_0
          try clear hfz182_1
          try clear hfz193_0
          try clear hfz193_1
          try clear hfz199_0
          try clear hfz199_1
          try clear hfz19_0
          try clear hfz19_1
          try clear hfz209_0
          try clear hfz209_1
          try clear hfz218_0
          try clear hfz218_1
          try clear hfz225_0
          try clear hfz225_1
          try clear hfz25_0
          try clear hfz25_1
          try clear hfz26_0
          try clear hfz26_1
          try clear hfz27_0
          try clear hfz27_1
          try clear hfz34_0
          try clear hfz34_1
          try clear hfz35_0
          try clear hfz35_1
          try clear hfz36_0
          try clear hfz36_1
          try clear hfz44_0
          try clear hfz44_1
          try clear hfz45_0
          try clear hfz45_1
          try clear hfz46_0
          try clear hfz46_1
          try clear hfz55_0
          try clear hfz55_1
          try clear hfz63_0
          try clear hfz63_1
          try clear hfz69_0
          try clear hfz69_1
          try clear hfz78_0
          try clear hfz78_1
          try clear hfz84_0
          try clear hfz84_1
          try clear hfz89_0
          try clear hfz89_1
          try clear hfz93_0
          try clear hfz93_1
          try clear p2
          obtain ⟨kq, HA, HJ182, BK188, BK189, BK190, BK195, BK199, BK203, BK207, HB⟩ := hcut
          cases kq with
          | zero => exact absurd HA.out (by simp [assessorlaw46_FractionField.j5])
          | succ kj182 =>
           have H := HA.out
           clear HA
           simp only [assessorlaw46_FractionField.j5] at H
           replace H := Option.bind_eq_some_iff.mp H
           obtain ⟨⟨t216, t217, t218⟩, A2270, H⟩ := H
           replace H : ((fraction_Mul.f kj182 a0_0 a0_1 a2_0 a2_1).bind fun bt220 => ((fraction_Mul.f kj182 a1_0 a1_1 a2_0 a2_1).bind fun bt224 => ((fraction_Add.f kj182 bt220.1 bt220.2.1 bt224.1 bt224.2.1).bind fun bt228 => (if t194 = 0 then (if t218 = 0 then (if bt220.2.2 = 0 then (if bt224.2.2 = 0 then (if bt228.2.2 = 0 then (assessorlaw46_FractionField.j6 kj182 (t216 == bt228.1 && (t217 == bt228.2.1))) else (assessorlaw46_FractionField.j6 kj182 true)) else (assessorlaw46_FractionField.j6 kj182 true)) else (assessorlaw46_FractionField.j6 kj182 true)) else (assessorlaw46_FractionField.j6 kj182 true)) else (assessorlaw46_FractionField.j6 kj182 true))))) = some r := H
           have A227 := Aside0.mk A2270
           clear A2270
           replace H := Option.bind_eq_some_iff.mp H
           obtain ⟨⟨t220, t221, t222⟩, A2280, H⟩ := H
           replace H : ((fraction_Mul.f kj182 a1_0 a1_1 a2_0 a2_1).bind fun bt224 => ((fraction_Add.f kj182 t220 t221 bt224.1 bt224.2.1).bind fun bt228 => (if t194 = 0 then (if t218 = 0 then (if t222 = 0 then (if bt224.2.2 = 0 then (if bt228.2.2 = 0 then (assessorlaw46_FractionField.j6 kj182 (t216 == bt228.1 && (t217 == bt228.2.1))) else (assessorlaw46_FractionField.j6 kj182 true)) else (assessorlaw46_FractionField.j6 kj182 true)) else (assessorlaw46_FractionField.j6 kj182 true)) else (assessorlaw46_FractionField.j6 kj182 true)) else (assessorlaw46_FractionField.j6 kj182 true)))) = some r := H
           have A228 := Aside0.mk A2280
           clear A2280
           replace H := Option.bind_eq_some_iff.mp H
           obtain ⟨⟨t224, t225, t226⟩, A2290, H⟩ := H
           replace H : ((fraction_Add.f kj182 t220 t221 t224 t225).bind fun bt228 => (if t194 = 0 then (if t218 = 0 then (if t222 = 0 then (if t226 = 0 then (if bt228.2.2 = 0 then (assessorlaw46_FractionField.j6 kj182 (t216 == bt228.1 && (t217 == bt228.2.1))) else (assessorlaw46_FractionField.j6 kj182 true)) else (assessorlaw46_FractionField.j6 kj182 true)) else (assessorlaw46_FractionField.j6 kj182 true)) else (assessorlaw46_FractionField.j6 kj182 true)) else (assessorlaw46_FractionField.j6 kj182 true))) = some r := H
           have A229 := Aside0.mk A2290
           clear A2290
           replace H := Option.bind_eq_some_iff.mp H
           obtain ⟨⟨t228, t229, t230⟩, A2300, H⟩ := H
           replace H : (if t194 = 0 then (if t218 = 0 then (if t222 = 0 then (if t226 = 0 then (if t230 = 0 then (assessorlaw46_FractionField.j6 kj182 (t216 == t228 && (t217 == t229))) else (assessorlaw46_FractionField.j6 kj182 true)) else (assessorlaw46_FractionField.j6 kj182 true)) else (assessorlaw46_FractionField.j6 kj182 true)) else (assessorlaw46_FractionField.j6 kj182 true)) else (assessorlaw46_FractionField.j6 kj182 true)) = some r := H
           have A230 := Aside0.mk A2300
           clear A2300
           have HC231 := Aside0.mk H
           clear H
           have hnb232 := NB195_188.out
           have hnc232 := NB188_195.out
           have hnb233 := NB195_189.out
           have hnc233 := NB189_195.out
           have hnb234 := NB195_190.out
           have hnc234 := NB190_195.out
           have hnb235 := NB195_199.out
           have hnc235 := NB199_195.out
           have hnb236 := NB195_203.out
           have hnc236 := NB203_195.out
           have hnb237 := NB195_207.out
           have hnc237 := NB207_195.out
           have hcz238_0 : wc.cell? ⟨gb195, 0, none⟩ = some (.int .i64 t192) := (blk_cell BK195.out 0).trans rfl
           have hcz238_1 : wc.cell? ⟨gb195, 1, none⟩ = some (.int .i64 t193) := (blk_cell BK195.out 1).trans rfl
           have hfz238_0 := blk_frozen BK195.out 0
           have hfz238_1 := blk_frozen BK195.out 1
           have hnb239 := NB190_188.out
           have hnc239 := NB188_190.out
           have hnb240 := NB190_189.out
           have hnc240 := NB189_190.out
           have hnb241 := NB190_199.out
           have hnc241 := NB199_190.out
           have hnb242 := NB190_203.out
           have hnc242 := NB203_190.out
           have hnb243 := NB190_207.out
           have hnc243 := NB207_190.out
           have hcz244_0 : wc.cell? ⟨gb190, 0, none⟩ = some (.int .i64 a2_0) := (blk_cell BK190.out 0).trans rfl
           have hcz244_1 : wc.cell? ⟨gb190, 1, none⟩ = some (.int .i64 a2_1) := (blk_cell BK190.out 1).trans rfl
           have hfz244_0 := blk_frozen BK190.out 0
           have hfz244_1 := blk_frozen BK190.out 1
           go_upto_region 21 with (first | ((with_reducible refine gate_callee (f := 22) rfl ?_); refine goesL_ (some 109) rfl rfl Tryd.func22 (by kernel_rfl) rfl #[.agg #[.int .i64 t192, .int .i64 t193], .agg #[.int .i64 a2_0, .int .i64 a2_1]] rfl (by (try simp only [List.map_toArray, List.map_cons, List.map_nil]); first | done | rfl | (simp only [List.length_drop, List.length_take]; rfl)) ?_; (with_reducible refine (fraction_Mul.calls kj182 t192 t193 a2_0 a2_1 t216 t217 t218 _ A227.out).mono ?_); rintro e w245 ⟨rfl, hb⟩; refine ⟨_, rfl, ?_⟩; have n0_ := Aside0.mk (blk_below (g := gb188) (o := .cells #[.int .i64 a0_0, .int .i64 a0_1] 23 (0, 0)) (by (with_reducible repeat first | apply b1 | apply b2 | apply b3); exact BK188.out) hb); have n1_ := Aside0.mk (blk_below (g := gb189) (o := .cells #[.int .i64 a1_0, .int .i64 a1_1] 23 (0, 0)) (by (with_reducible repeat first | apply b1 | apply b2 | apply b3); exact BK189.out) hb); have n2_ := Aside0.mk (blk_below (g := gb190) (o := .cells #[.int .i64 a2_0, .int .i64 a2_1] 23 (0, 0)) (by (with_reducible repeat first | apply b1 | apply b2 | apply b3); exact BK190.out) hb); have n3_ := Aside0.mk (blk_below (g := gb195) (o := .cells #[.int .i64 t192, .int .i64 t193] 23 (0, 0)) (by (with_reducible repeat first | apply b1 | apply b2 | apply b3); exact BK195.out) hb); have n4_ := Aside0.mk (blk_below (g := gb199) (o := .cells #[.int .i64 t196, .int .i64 t197] 23 (0, 0)) (by (with_reducible repeat first | apply b1 | apply b2 | apply b3); exact BK199.out) hb); have n5_ := Aside0.mk (blk_below (g := gb203) (o := .cells #[.int .i64 t200, .int .i64 t201] 23 (0, 0)) (by (with_reducible repeat first | apply b1 | apply b2 | apply b3); exact BK203.out) hb); have n6_ := Aside0.mk (blk_below (g := gb207) (o := .cells #[.int .i64 t204, .int .i64 t205] 23 (0, 0)) (by (with_reducible repeat first | apply b1 | apply b2 | apply b3); exact BK207.out) hb); have n7_ := Aside0.mk (below_step (by repeat (first | (with_reducible first | exact HB.out | apply b4 | apply b5 | apply b6 | refine below_set ?_ GE188.out | refine below_set ?_ GE189.out | refine below_set ?_ GE190.out | refine below_set ?_ GE195.out | refine below_set ?_ GE199.out | refine below_set ?_ GE203.out | refine below_set ?_ GE207.out) | exact HB.out)) hb); clear BK188; clear BK189; clear BK190; clear BK195; clear BK199; clear BK203; clear BK207; clear HB; have BK188 := n0_; have BK189 := n1_; have BK190 := n2_; have BK195 := n3_; have BK199 := n4_; have BK203 := n5_; have BK207 := n6_; have HB := n7_; clear n0_ n1_ n2_ n3_ n4_ n5_ n6_ n7_; (try clear hb); (try clear hb2); (try clear hk); (try clear hi)) | ((with_reducible refine gate_dst (N := 19) rfl ?_); refine box_event ?hg (N := 19) ?hd (cs := #[.int .i64 0, .int .i64 0]) (t := 23) ?hr ?_; (case hd => rfl); (case hg => rfl); (case hr => first | (go_simp; done) | (go_simp; rfl)); intro gb219 hg w246 hbox hb; have n0_ := Aside0.mk (blk_below (g := gb188) (o := .cells #[.int .i64 a0_0, .int .i64 a0_1] 23 (0, 0)) (by (with_reducible repeat first | apply b1 | apply b2 | apply b3); exact BK188.out) hb); have n1_ := Aside0.mk (blk_below (g := gb189) (o := .cells #[.int .i64 a1_0, .int .i64 a1_1] 23 (0, 0)) (by (with_reducible repeat first | apply b1 | apply b2 | apply b3); exact BK189.out) hb); have n2_ := Aside0.mk (blk_below (g := gb190) (o := .cells #[.int .i64 a2_0, .int .i64 a2_1] 23 (0, 0)) (by (with_reducible repeat first | apply b1 | apply b2 | apply b3); exact BK190.out) hb); have n3_ := Aside0.mk (blk_below (g := gb195) (o := .cells #[.int .i64 t192, .int .i64 t193] 23 (0, 0)) (by (with_reducible repeat first | apply b1 | apply b2 | apply b3); exact BK195.out) hb); have n4_ := Aside0.mk (blk_below (g := gb199) (o := .cells #[.int .i64 t196, .int .i64 t197] 23 (0, 0)) (by (with_reducible repeat first | apply b1 | apply b2 | apply b3); exact BK199.out) hb); have n5_ := Aside0.mk (blk_below (g := gb203) (o := .cells #[.int .i64 t200, .int .i64 t201] 23 (0, 0)) (by (with_reducible repeat first | apply b1 | apply b2 | apply b3); exact BK203.out) hb); have n6_ := Aside0.mk (blk_below (g := gb207) (o := .cells #[.int .i64 t204, .int .i64 t205] 23 (0, 0)) (by (with_reducible repeat first | apply b1 | apply b2 | apply b3); exact BK207.out) hb); have n7_ := Aside0.mk (below_step (by repeat (first | (with_reducible first | exact HB.out | apply b4 | apply b5 | apply b6 | refine below_set ?_ GE188.out | refine below_set ?_ GE189.out | refine below_set ?_ GE190.out | refine below_set ?_ GE195.out | refine below_set ?_ GE199.out | refine below_set ?_ GE203.out | refine below_set ?_ GE207.out) | exact HB.out)) hb); have n8_ := Aside0.mk (hbox); have n9_ := Aside0.mk ((by rw [hg]; exact (below_size (by repeat (first | (with_reducible first | exact HB.out | apply b4 | apply b5 | apply b6 | refine below_set ?_ GE188.out | refine below_set ?_ GE189.out | refine below_set ?_ GE190.out | refine below_set ?_ GE195.out | refine below_set ?_ GE199.out | refine below_set ?_ GE203.out | refine below_set ?_ GE207.out) | exact HB.out))) : w.heap.size ≤ gb219)); have n10_ := Aside0.mk ((by rw [hg]; exact (below_size (by repeat (first | (with_reducible first | exact HB.out | apply b4 | apply b5 | apply b6 | refine below_set ?_ GE188.out | refine below_set ?_ GE189.out | refine below_set ?_ GE190.out | refine below_set ?_ GE195.out | refine below_set ?_ GE199.out | refine below_set ?_ GE203.out | refine below_set ?_ GE207.out) | exact HB.out))) : w.heap.size ≤ gb219)); have n11_ := Aside0.mk ((by rw [hg]; exact Nat.ne_of_lt (blk_lt (g := gb188) (o := .cells #[.int .i64 a0_0, .int .i64 a0_1] 23 (0, 0)) (by (with_reducible repeat first | apply b1 | apply b2 | apply b3); exact BK188.out)) : gb188 ≠ gb219)); have n12_ := Aside0.mk ((by rw [hg]; exact Nat.ne_of_gt (blk_lt (g := gb188) (o := .cells #[.int .i64 a0_0, .int .i64 a0_1] 23 (0, 0)) (by (with_reducible repeat first | apply b1 | apply b2 | apply b3); exact BK188.out)) : gb219 ≠ gb188)); have n13_ := Aside0.mk ((by rw [hg]; exact Nat.ne_of_lt (blk_lt (g := gb189) (o := .cells #[.int .i64 a1_0, .int .i64 a1_1] 23 (0, 0)) (by (with_reducible repeat first | apply b1 | apply b2 | apply b3); exact BK189.out)) : gb189 ≠ gb219)); have n14_ := Aside0.mk ((by rw [hg]; exact Nat.ne_of_gt (blk_lt (g := gb189) (o := .cells #[.int .i64 a1_0, .int .i64 a1_1] 23 (0, 0)) (by (with_reducible repeat first | apply b1 | apply b2 | apply b3); exact BK189.out)) : gb219 ≠ gb189)); have n15_ := Aside0.mk ((by rw [hg]; exact Nat.ne_of_lt (blk_lt (g := gb190) (o := .cells #[.int .i64 a2_0, .int .i64 a2_1] 23 (0, 0)) (by (with_reducible repeat first | apply b1 | apply b2 | apply b3); exact BK190.out)) : gb190 ≠ gb219)); have n16_ := Aside0.mk ((by rw [hg]; exact Nat.ne_of_gt (blk_lt (g := gb190) (o := .cells #[.int .i64 a2_0, .int .i64 a2_1] 23 (0, 0)) (by (with_reducible repeat first | apply b1 | apply b2 | apply b3); exact BK190.out)) : gb219 ≠ gb190)); have n17_ := Aside0.mk ((by rw [hg]; exact Nat.ne_of_lt (blk_lt (g := gb195) (o := .cells #[.int .i64 t192, .int .i64 t193] 23 (0, 0)) (by (with_reducible repeat first | apply b1 | apply b2 | apply b3); exact BK195.out)) : gb195 ≠ gb219)); have n18_ := Aside0.mk ((by rw [hg]; exact Nat.ne_of_gt (blk_lt (g := gb195) (o := .cells #[.int .i64 t192, .int .i64 t193] 23 (0, 0)) (by (with_reducible repeat first | apply b1 | apply b2 | apply b3); exact BK195.out)) : gb219 ≠ gb195)); have n19_ := Aside0.mk ((by rw [hg]; exact Nat.ne_of_lt (blk_lt (g := gb199) (o := .cells #[.int .i64 t196, .int .i64 t197] 23 (0, 0)) (by (with_reducible repeat first | apply b1 | apply b2 | apply b3); exact BK199.out)) : gb199 ≠ gb219)); have n20_ := Aside0.mk ((by rw [hg]; exact Nat.ne_of_gt (blk_lt (g := gb199) (o := .cells #[.int .i64 t196, .int .i64 t197] 23 (0, 0)) (by (with_reducible repeat first | apply b1 | apply b2 | apply b3); exact BK199.out)) : gb219 ≠ gb199)); have n21_ := Aside0.mk ((by rw [hg]; exact Nat.ne_of_lt (blk_lt (g := gb203) (o := .cells #[.int .i64 t200, .int .i64 t201] 23 (0, 0)) (by (with_reducible repeat first | apply b1 | apply b2 | apply b3); exact BK203.out)) : gb203 ≠ gb219)); have n22_ := Aside0.mk ((by rw [hg]; exact Nat.ne_of_gt (blk_lt (g := gb203) (o := .cells #[.int .i64 t200, .int .i64 t201] 23 (0, 0)) (by (with_reducible repeat first | apply b1 | apply b2 | apply b3); exact BK203.out)) : gb219 ≠ gb203)); have n23_ := Aside0.mk ((by rw [hg]; exact Nat.ne_of_lt (blk_lt (g := gb207) (o := .cells #[.int .i64 t204, .int .i64 t205] 23 (0, 0)) (by (with_reducible repeat first | apply b1 | apply b2 | apply b3); exact BK207.out)) : gb207 ≠ gb219)); have n24_ := Aside0.mk ((by rw [hg]; exact Nat.ne_of_gt (blk_lt (g := gb207) (o := .cells #[.int .i64 t204, .int .i64 t205] 23 (0, 0)) (by (with_reducible repeat first | apply b1 | apply b2 | apply b3); exact BK207.out)) : gb219 ≠ gb207)); clear BK188; clear BK189; clear BK190; clear BK195; clear BK199; clear BK203; clear BK207; clear HB; have BK188 := n0_; have BK189 := n1_; have BK190 := n2_; have BK195 := n3_; have BK199 := n4_; have BK203 := n5_; have BK207 := n6_; have HB := n7_; have BK219 := n8_; have GW219 := n9_; have GE219 := n10_; have NB188_219 := n11_; have NB219_188 := n12_; have NB189_219 := n13_; have NB219_189 := n14_; have NB190_219 := n15_; have NB219_190 := n16_; have NB195_219 := n17_; have NB219_195 := n18_; have NB199_219 := n19_; have NB219_199 := n20_; have NB203_219 := n21_; have NB219_203 := n22_; have NB207_219 := n23_; have NB219_207 := n24_; clear n0_ n1_ n2_ n3_ n4_ n5_ n6_ n7_ n8_ n9_ n10_ n11_ n12_ n13_ n14_ n15_ n16_ n17_ n18_ n19_ n20_ n21_ n22_ n23_ n24_; clear hb hbox hg; have hnb247 := NB219_188.out; have hnc247 := NB188_219.out; have hnb248 := NB219_189.out; have hnc248 := NB189_219.out; have hnb249 := NB219_190.out; have hnc249 := NB190_219.out; have hnb250 := NB219_195.out; have hnc250 := NB195_219.out; have hnb251 := NB219_199.out; have hnc251 := NB199_219.out; have hnb252 := NB219_203.out; have hnc252 := NB203_219.out; have hnb253 := NB219_207.out; have hnc253 := NB207_219.out; have hcz254_0 : w246.cell? ⟨gb219, 0, none⟩ = some (.int .i64 0) := (blk_cell BK219.out 0).trans rfl; have hcz254_1 : w246.cell? ⟨gb219, 1, none⟩ = some (.int .i64 0) := (blk_cell BK219.out 1).trans rfl; have hfz254_0 := blk_frozen BK219.out 0; have hfz254_1 := blk_frozen BK219.out 1; have hnb255 := NB188_189.out; have hnc255 := NB189_188.out; have hnb256 := NB188_199.out; have hnc256 := NB199_188.out; have hnb257 := NB188_203.out; have hnc257 := NB203_188.out; have hnb258 := NB188_207.out; have hnc258 := NB207_188.out; have hcz259_0 : w246.cell? ⟨gb188, 0, none⟩ = some (.int .i64 a0_0) := (blk_cell BK188.out 0).trans rfl; have hcz259_1 : w246.cell? ⟨gb188, 1, none⟩ = some (.int .i64 a0_1) := (blk_cell BK188.out 1).trans rfl; have hfz259_0 := blk_frozen BK188.out 0; have hfz259_1 := blk_frozen BK188.out 1; have hcz260_0 : w246.cell? ⟨gb190, 0, none⟩ = some (.int .i64 a2_0) := (blk_cell BK190.out 0).trans rfl; have hcz260_1 : w246.cell? ⟨gb190, 1, none⟩ = some (.int .i64 a2_1) := (blk_cell BK190.out 1).trans rfl; have hfz260_0 := blk_frozen BK190.out 0; have hfz260_1 := blk_frozen BK190.out 1) | ((with_reducible refine gate_callee (f := 22) rfl ?_); refine goesL_ (some 115) rfl rfl Tryd.func22 (by kernel_rfl) rfl #[.agg #[.int .i64 a0_0, .int .i64 a0_1], .agg #[.int .i64 a2_0, .int .i64 a2_1]] rfl (by (try simp only [List.map_toArray, List.map_cons, List.map_nil]); first | done | rfl | (simp only [List.length_drop, List.length_take]; rfl)) ?_; (with_reducible refine (fraction_Mul.calls kj182 a0_0 a0_1 a2_0 a2_1 t220 t221 t222 _ A228.out).mono ?_); rintro e w261 ⟨rfl, hb⟩; refine ⟨_, rfl, ?_⟩; have n0_ := Aside0.mk (blk_below (g := gb188) (o := .cells #[.int .i64 a0_0, .int .i64 a0_1] 23 (0, 0)) (by (with_reducible repeat first | apply b1 | apply b2 | apply b3); refine blk_far ?_ NB188_219.out _; (with_reducible repeat first | apply b1 | apply b2 | apply b3); refine blk_far ?_ NB188_219.out _; (with_reducible repeat first | apply b1 | apply b2 | apply b3); exact BK188.out) hb); have n1_ := Aside0.mk (blk_below (g := gb189) (o := .cells #[.int .i64 a1_0, .int .i64 a1_1] 23 (0, 0)) (by (with_reducible repeat first | apply b1 | apply b2 | apply b3); refine blk_far ?_ NB189_219.out _; (with_reducible repeat first | apply b1 | apply b2 | apply b3); refine blk_far ?_ NB189_219.out _; (with_reducible repeat first | apply b1 | apply b2 | apply b3); exact BK189.out) hb); have n2_ := Aside0.mk (blk_below (g := gb190) (o := .cells #[.int .i64 a2_0, .int .i64 a2_1] 23 (0, 0)) (by (with_reducible repeat first | apply b1 | apply b2 | apply b3); refine blk_far ?_ NB190_219.out _; (with_reducible repeat first | apply b1 | apply b2 | apply b3); refine blk_far ?_ NB190_219.out _; (with_reducible repeat first | apply b1 | apply b2 | apply b3); exact BK190.out) hb); have n3_ := Aside0.mk (blk_below (g := gb195) (o := .cells #[.int .i64 t192, .int .i64 t193] 23 (0, 0)) (by (with_reducible repeat first | apply b1 | apply b2 | apply b3); refine blk_far ?_ NB195_219.out _; (with_reducible repeat first | apply b1 | apply b2 | apply b3); refine blk_far ?_ NB195_219.out _; (with_reducible repeat first | apply b1 | apply b2 | apply b3); exact BK195.out) hb); have n4_ := Aside0.mk (blk_below (g := gb199) (o := .cells #[.int .i64 t196, .int .i64 t197] 23 (0, 0)) (by (with_reducible repeat first | apply b1 | apply b2 | apply b3); refine blk_far ?_ NB199_219.out _; (with_reducible repeat first | apply b1 | apply b2 | apply b3); refine blk_far ?_ NB199_219.out _; (with_reducible repeat first | apply b1 | apply b2 | apply b3); exact BK199.out) hb); have n5_ := Aside0.mk (blk_below (g := gb203) (o := .cells #[.int .i64 t200, .int .i64 t201] 23 (0, 0)) (by (with_reducible repeat first | apply b1 | apply b2 | apply b3); refine blk_far ?_ NB203_219.out _; (with_reducible repeat first | apply b1 | apply b2 | apply b3); refine blk_far ?_ NB203_219.out _; (with_reducible repeat first | apply b1 | apply b2 | apply b3); exact BK203.out) hb); have n6_ := Aside0.mk (blk_below (g := gb207) (o := .cells #[.int .i64 t204, .int .i64 t205] 23 (0, 0)) (by (with_reducible repeat first | apply b1 | apply b2 | apply b3); refine blk_far ?_ NB207_219.out _; (with_reducible repeat first | apply b1 | apply b2 | apply b3); refine blk_far ?_ NB207_219.out _; (with_reducible repeat first | apply b1 | apply b2 | apply b3); exact BK207.out) hb); have n7_ := Aside0.mk (blk_below (g := gb219) (o := .cells #[.int .i64 t216, .int .i64 t217] 23 (0, 0)) (by (with_reducible repeat first | apply b1 | apply b2 | apply b3); refine blk_put (cs := #[.int .i64 t216, .int .i64 0]) ?_ 1 _ rfl; (with_reducible repeat first | apply b1 | apply b2 | apply b3); refine blk_put (cs := #[.int .i64 0, .int .i64 0]) ?_ 0 _ rfl; (with_reducible repeat first | apply b1 | apply b2 | apply b3); exact BK219.out) hb); have n8_ := Aside0.mk (below_step (by repeat (first | (with_reducible first | exact HB.out | apply b4 | apply b5 | apply b6 | refine below_set ?_ GE188.out | refine below_set ?_ GE189.out | refine below_set ?_ GE190.out | refine below_set ?_ GE195.out | refine below_set ?_ GE199.out | refine below_set ?_ GE203.out | refine below_set ?_ GE207.out | refine below_set ?_ GE219.out) | exact HB.out)) hb); clear BK188; clear BK189; clear BK190; clear BK195; clear BK199; clear BK203; clear BK207; clear BK219; clear HB; have BK188 := n0_; have BK189 := n1_; have BK190 := n2_; have BK195 := n3_; have BK199 := n4_; have BK203 := n5_; have BK207 := n6_; have BK219 := n7_; have HB := n8_; clear n0_ n1_ n2_ n3_ n4_ n5_ n6_ n7_ n8_; (try clear hb); (try clear hb2); (try clear hk); (try clear hi)) | ((with_reducible refine gate_dst (N := 21) rfl ?_); refine box_event ?hg (N := 21) ?hd (cs := #[.int .i64 0, .int .i64 0]) (t := 23) ?hr ?_; (case hd => rfl); (case hg => rfl); (case hr => first | (go_simp; done) | (go_simp; rfl)); intro gb223 hg w262 hbox hb; have n0_ := Aside0.mk (blk_below (g := gb188) (o := .cells #[.int .i64 a0_0, .int .i64 a0_1] 23 (0, 0)) (by (with_reducible repeat first | apply b1 | apply b2 | apply b3); exact BK188.out) hb); have n1_ := Aside0.mk (blk_below (g := gb189) (o := .cells #[.int .i64 a1_0, .int .i64 a1_1] 23 (0, 0)) (by (with_reducible repeat first | apply b1 | apply b2 | apply b3); exact BK189.out) hb); have n2_ := Aside0.mk (blk_below (g := gb190) (o := .cells #[.int .i64 a2_0, .int .i64 a2_1] 23 (0, 0)) (by (with_reducible repeat first | apply b1 | apply b2 | apply b3); exact BK190.out) hb); have n3_ := Aside0.mk (blk_below (g := gb195) (o := .cells #[.int .i64 t192, .int .i64 t193] 23 (0, 0)) (by (with_reducible repeat first | apply b1 | apply b2 | apply b3); exact BK195.out) hb); have n4_ := Aside0.mk (blk_below (g := gb199) (o := .cells #[.int .i64 t196, .int .i64 t197] 23 (0, 0)) (by (with_reducible repeat first | apply b1 | apply b2 | apply b3); exact BK199.out) hb); have n5_ := Aside0.mk (blk_below (g := gb203) (o := .cells #[.int .i64 t200, .int .i64 t201] 23 (0, 0)) (by (with_reducible repeat first | apply b1 | apply b2 | apply b3); exact BK203.out) hb); have n6_ := Aside0.mk (blk_below (g := gb207) (o := .cells #[.int .i64 t204, .int .i64 t205] 23 (0, 0)) (by (with_reducible repeat first | apply b1 | apply b2 | apply b3); exact BK207.out) hb); have n7_ := Aside0.mk (blk_below (g := gb219) (o := .cells #[.int .i64 t216, .int .i64 t217] 23 (0, 0)) (by (with_reducible repeat first | apply b1 | apply b2 | apply b3); exact BK219.out) hb); have n8_ := Aside0.mk (below_step (by repeat (first | (with_reducible first | exact HB.out | apply b4 | apply b5 | apply b6 | refine below_set ?_ GE188.out | refine below_set ?_ GE189.out | refine below_set ?_ GE190.out | refine below_set ?_ GE195.out | refine below_set ?_ GE199.out | refine below_set ?_ GE203.out | refine below_set ?_ GE207.out | refine below_set ?_ GE219.out) | exact HB.out)) hb); have n9_ := Aside0.mk (hbox); have n10_ := Aside0.mk ((by rw [hg]; exact (below_size (by repeat (first | (with_reducible first | exact HB.out | apply b4 | apply b5 | apply b6 | refine below_set ?_ GE188.out | refine below_set ?_ GE189.out | refine below_set ?_ GE190.out | refine below_set ?_ GE195.out | refine below_set ?_ GE199.out | refine below_set ?_ GE203.out | refine below_set ?_ GE207.out | refine below_set ?_ GE219.out) | exact HB.out))) : w.heap.size ≤ gb223)); have n11_ := Aside0.mk ((by rw [hg]; exact (below_size (by repeat (first | (with_reducible first | exact HB.out | apply b4 | apply b5 | apply b6 | refine below_set ?_ GE188.out | refine below_set ?_ GE189.out | refine below_set ?_ GE190.out | refine below_set ?_ GE195.out | refine below_set ?_ GE199.out | refine below_set ?_ GE203.out | refine below_set ?_ GE207.out | refine below_set ?_ GE219.out) | exact HB.out))) : w.heap.size ≤ gb223)); have n12_ := Aside0.mk ((by rw [hg]; exact Nat.ne_of_lt (blk_lt (g := gb188) (o := .cells #[.int .i64 a0_0, .int .i64 a0_1] 23 (0, 0)) (by (with_reducible repeat first | apply b1 | apply b2 | apply b3); exact BK188.out)) : gb188 ≠ gb223)); have n13_ := Aside0.mk ((by rw [hg]; exact Nat.ne_of_gt (blk_lt (g := gb188) (o := .cells #[.int .i64 a0_0, .int .i64 a0_1] 23 (0, 0)) (by (with_reducible repeat first | apply b1 | apply b2 | apply b3); exact BK188.out)) : gb223 ≠ gb188)); have n14_ := Aside0.mk ((by rw [hg]; exact Nat.ne_of_lt (blk_lt (g := gb189) (o := .cells #[.int .i64 a1_0, .int .i64 a1_1] 23 (0, 0)) (by (with_reducible repeat first | apply b1 | apply b2 | apply b3); exact BK189.out)) : gb189 ≠ gb223)); have n15_ := Aside0.mk ((by rw [hg]; exact Nat.ne_of_gt (blk_lt (g := gb189) (o := .cells #[.int .i64 a1_0, .int .i64 a1_1] 23 (0, 0)) (by (with_reducible repeat first | apply b1 | apply b2 | apply b3); exact BK189.out)) : gb223 ≠ gb189)); have n16_ := Aside0.mk ((by rw [hg]; exact Nat.ne_of_lt (blk_lt (g := gb190) (o := .cells #[.int .i64 a2_0, .int .i64 a2_1] 23 (0, 0)) (by (with_reducible repeat first | apply b1 | apply b2 | apply b3); exact BK190.out)) : gb190 ≠ gb223)); have n17_ := Aside0.mk ((by rw [hg]; exact Nat.ne_of_gt (blk_lt (g := gb190) (o := .cells #[.int .i64 a2_0, .int .i64 a2_1] 23 (0, 0)) (by (with_reducible repeat first | apply b1 | apply b2 | apply b3); exact BK190.out)) : gb223 ≠ gb190)); have n18_ := Aside0.mk ((by rw [hg]; exact Nat.ne_of_lt (blk_lt (g := gb195) (o := .cells #[.int .i64 t192, .int .i64 t193] 23 (0, 0)) (by (with_reducible repeat first | apply b1 | apply b2 | apply b3); exact BK195.out)) : gb195 ≠ gb223)); have n19_ := Aside0.mk ((by rw [hg]; exact Nat.ne_of_gt (blk_lt (g := gb195) (o := .cells #[.int .i64 t192, .int .i64 t193] 23 (0, 0)) (by (with_reducible repeat first | apply b1 | apply b2 | apply b3); exact BK195.out)) : gb223 ≠ gb195)); have n20_ := Aside0.mk ((by rw [hg]; exact Nat.ne_of_lt (blk_lt (g := gb199) (o := .cells #[.int .i64 t196, .int .i64 t197] 23 (0, 0)) (by (with_reducible repeat first | apply b1 | apply b2 | apply b3); exact BK199.out)) : gb199 ≠ gb223)); have n21_ := Aside0.mk ((by rw [hg]; exact Nat.ne_of_gt (blk_lt (g := gb199) (o := .cells #[.int .i64 t196, .int .i64 t197] 23 (0, 0)) (by (with_reducible repeat first | apply b1 | apply b2 | apply b3); exact BK199.out)) : gb223 ≠ gb199)); have n22_ := Aside0.mk ((by rw [hg]; exact Nat.ne_of_lt (blk_lt (g := gb203) (o := .cells #[.int .i64 t200, .int .i64 t201] 23 (0, 0)) (by (with_reducible repeat first | apply b1 | apply b2 | apply b3); exact BK203.out)) : gb203 ≠ gb223)); have n23_ := Aside0.mk ((by rw [hg]; exact Nat.ne_of_gt (blk_lt (g := gb203) (o := .cells #[.int .i64 t200, .int .i64 t201] 23 (0, 0)) (by (with_reducible repeat first | apply b1 | apply b2 | apply b3); exact BK203.out)) : gb223 ≠ gb203)); have n24_ := Aside0.mk ((by rw [hg]; exact Nat.ne_of_lt (blk_lt (g := gb207) (o := .cells #[.int .i64 t204, .int .i64 t205] 23 (0, 0)) (by (with_reducible repeat first | apply b1 | apply b2 | apply b3); exact BK207.out)) : gb207 ≠ gb223)); have n25_ := Aside0.mk ((by rw [hg]; exact Nat.ne_of_gt (blk_lt (g := gb207) (o := .cells #[.int .i64 t204, .int .i64 t205] 23 (0, 0)) (by (with_reducible repeat first | apply b1 | apply b2 | apply b3); exact BK207.out)) : gb223 ≠ gb207)); have n26_ := Aside0.mk ((by rw [hg]; exact Nat.ne_of_lt (blk_lt (g := gb219) (o := .cells #[.int .i64 t216, .int .i64 t217] 23 (0, 0)) (by (with_reducible repeat first | apply b1 | apply b2 | apply b3); exact BK219.out)) : gb219 ≠ gb223)); have n27_ := Aside0.mk ((by rw [hg]; exact Nat.ne_of_gt (blk_lt (g := gb219) (o := .cells #[.int .i64 t216, .int .i64 t217] 23 (0, 0)) (by (with_reducible repeat first | apply b1 | apply b2 | apply b3); exact BK219.out)) : gb223 ≠ gb219)); clear BK188; clear BK189; clear BK190; clear BK195; clear BK199; clear BK203; clear BK207; clear BK219; clear HB; have BK188 := n0_; have BK189 := n1_; have BK190 := n2_; have BK195 := n3_; have BK199 := n4_; have BK203 := n5_; have BK207 := n6_; have BK219 := n7_; have HB := n8_; have BK223 := n9_; have GW223 := n10_; have GE223 := n11_; have NB188_223 := n12_; have NB223_188 := n13_; have NB189_223 := n14_; have NB223_189 := n15_; have NB190_223 := n16_; have NB223_190 := n17_; have NB195_223 := n18_; have NB223_195 := n19_; have NB199_223 := n20_; have NB223_199 := n21_; have NB203_223 := n22_; have NB223_203 := n23_; have NB207_223 := n24_; have NB223_207 := n25_; have NB219_223 := n26_; have NB223_219 := n27_; clear n0_ n1_ n2_ n3_ n4_ n5_ n6_ n7_ n8_ n9_ n10_ n11_ n12_ n13_ n14_ n15_ n16_ n17_ n18_ n19_ n20_ n21_ n22_ n23_ n24_ n25_ n26_ n27_; clear hb hbox hg; have hnb263 := NB223_188.out; have hnc263 := NB188_223.out; have hnb264 := NB223_189.out; have hnc264 := NB189_223.out; have hnb265 := NB223_190.out; have hnc265 := NB190_223.out; have hnb266 := NB223_195.out; have hnc266 := NB195_223.out; have hnb267 := NB223_199.out; have hnc267 := NB199_223.out; have hnb268 := NB223_203.out; have hnc268 := NB203_223.out; have hnb269 := NB223_207.out; have hnc269 := NB207_223.out; have hnb270 := NB223_219.out; have hnc270 := NB219_223.out; have hcz271_0 : w262.cell? ⟨gb223, 0, none⟩ = some (.int .i64 0) := (blk_cell BK223.out 0).trans rfl; have hcz271_1 : w262.cell? ⟨gb223, 1, none⟩ = some (.int .i64 0) := (blk_cell BK223.out 1).trans rfl; have hfz271_0 := blk_frozen BK223.out 0; have hfz271_1 := blk_frozen BK223.out 1; have hnb272 := NB189_199.out; have hnc272 := NB199_189.out; have hnb273 := NB189_203.out; have hnc273 := NB203_189.out; have hnb274 := NB189_207.out; have hnc274 := NB207_189.out; have hcz275_0 : w262.cell? ⟨gb189, 0, none⟩ = some (.int .i64 a1_0) := (blk_cell BK189.out 0).trans rfl; have hcz275_1 : w262.cell? ⟨gb189, 1, none⟩ = some (.int .i64 a1_1) := (blk_cell BK189.out 1).trans rfl; have hfz275_0 := blk_frozen BK189.out 0; have hfz275_1 := blk_frozen BK189.out 1; have hcz276_0 : w262.cell? ⟨gb190, 0, none⟩ = some (.int .i64 a2_0) := (blk_cell BK190.out 0).trans rfl; have hcz276_1 : w262.cell? ⟨gb190, 1, none⟩ = some (.int .i64 a2_1) := (blk_cell BK190.out 1).trans rfl; have hfz276_0 := blk_frozen BK190.out 0; have hfz276_1 := blk_frozen BK190.out 1) | ((with_reducible refine gate_callee (f := 22) rfl ?_); refine goesL_ (some 121) rfl rfl Tryd.func22 (by kernel_rfl) rfl #[.agg #[.int .i64 a1_0, .int .i64 a1_1], .agg #[.int .i64 a2_0, .int .i64 a2_1]] rfl (by (try simp only [List.map_toArray, List.map_cons, List.map_nil]); first | done | rfl | (simp only [List.length_drop, List.length_take]; rfl)) ?_; (with_reducible refine (fraction_Mul.calls kj182 a1_0 a1_1 a2_0 a2_1 t224 t225 t226 _ A229.out).mono ?_); rintro e w277 ⟨rfl, hb⟩; refine ⟨_, rfl, ?_⟩; have n0_ := Aside0.mk (blk_below (g := gb188) (o := .cells #[.int .i64 a0_0, .int .i64 a0_1] 23 (0, 0)) (by (with_reducible repeat first | apply b1 | apply b2 | apply b3); refine blk_far ?_ NB188_223.out _; (with_reducible repeat first | apply b1 | apply b2 | apply b3); refine blk_far ?_ NB188_223.out _; (with_reducible repeat first | apply b1 | apply b2 | apply b3); exact BK188.out) hb); have n1_ := Aside0.mk (blk_below (g := gb189) (o := .cells #[.int .i64 a1_0, .int .i64 a1_1] 23 (0, 0)) (by (with_reducible repeat first | apply b1 | apply b2 | apply b3); refine blk_far ?_ NB189_223.out _; (with_reducible repeat first | apply b1 | apply b2 | apply b3); refine blk_far ?_ NB189_223.out _; (with_reducible repeat first | apply b1 | apply b2 | apply b3); exact BK189.out) hb); have n2_ := Aside0.mk (blk_below (g := gb190) (o := .cells #[.int .i64 a2_0, .int .i64 a2_1] 23 (0, 0)) (by (with_reducible repeat first | apply b1 | apply b2 | apply b3); refine blk_far ?_ NB190_223.out _; (with_reducible repeat first | apply b1 | apply b2 | apply b3); refine blk_far ?_ NB190_223.out _; (with_reducible repeat first | apply b1 | apply b2 | apply b3); exact BK190.out) hb); have n3_ := Aside0.mk (blk_below (g := gb195) (o := .cells #[.int .i64 t192, .int .i64 t193] 23 (0, 0)) (by (with_reducible repeat first | apply b1 | apply b2 | apply b3); refine blk_far ?_ NB195_223.out _; (with_reducible repeat first | apply b1 | apply b2 | apply b3); refine blk_far ?_ NB195_223.out _; (with_reducible repeat first | apply b1 | apply b2 | apply b3); exact BK195.out) hb); have n4_ := Aside0.mk (blk_below (g := gb199) (o := .cells #[.int .i64 t196, .int .i64 t197] 23 (0, 0)) (by (with_reducible repeat first | apply b1 | apply b2 | apply b3); refine blk_far ?_ NB199_223.out _; (with_reducible repeat first | apply b1 | apply b2 | apply b3); refine blk_far ?_ NB199_223.out _; (with_reducible repeat first | apply b1 | apply b2 | apply b3); exact BK199.out) hb); have n5_ := Aside0.mk (blk_below (g := gb203) (o := .cells #[.int .i64 t200, .int .i64 t201] 23 (0, 0)) (by (with_reducible repeat first | apply b1 | apply b2 | apply b3); refine blk_far ?_ NB203_223.out _; (with_reducible repeat first | apply b1 | apply b2 | apply b3); refine blk_far ?_ NB203_223.out _; (with_reducible repeat first | apply b1 | apply b2 | apply b3); exact BK203.out) hb); have n6_ := Aside0.mk (blk_below (g := gb207) (o := .cells #[.int .i64 t204, .int .i64 t205] 23 (0, 0)) (by (with_reducible repeat first | apply b1 | apply b2 | apply b3); refine blk_far ?_ NB207_223.out _; (with_reducible repeat first | apply b1 | apply b2 | apply b3); refine blk_far ?_ NB207_223.out _; (with_reducible repeat first | apply b1 | apply b2 | apply b3); exact BK207.out) hb); have n7_ := Aside0.mk (blk_below (g := gb219) (o := .cells #[.int .i64 t216, .int .i64 t217] 23 (0, 0)) (by (with_reducible repeat first | apply b1 | apply b2 | apply b3); refine blk_far ?_ NB219_223.out _; (with_reducible repeat first | apply b1 | apply b2 | apply b3); refine blk_far ?_ NB219_223.out _; (with_reducible repeat first | apply b1 | apply b2 | apply b3); exact BK219.out) hb); have n8_ := Aside0.mk (blk_below (g := gb223) (o := .cells #[.int .i64 t220, .int .i64 t221] 23 (0, 0)) (by (with_reducible repeat first | apply b1 | apply b2 | apply b3); refine blk_put (cs := #[.int .i64 t220, .int .i64 0]) ?_ 1 _ rfl; (with_reducible repeat first | apply b1 | apply b2 | apply b3); refine blk_put (cs := #[.int .i64 0, .int .i64 0]) ?_ 0 _ rfl; (with_reducible repeat first | apply b1 | apply b2 | apply b3); exact BK223.out) hb); have n9_ := Aside0.mk (below_step (by repeat (first | (with_reducible first | exact HB.out | apply b4 | apply b5 | apply b6 | refine below_set ?_ GE188.out | refine below_set ?_ GE189.out | refine below_set ?_ GE190.out | refine below_set ?_ GE195.out | refine below_set ?_ GE199.out | refine below_set ?_ GE203.out | refine below_set ?_ GE207.out | refine below_set ?_ GE219.out | refine below_set ?_ GE223.out) | exact HB.out)) hb); clear BK188; clear BK189; clear BK190; clear BK195; clear BK199; clear BK203; clear BK207; clear BK219; clear BK223; clear HB; have BK188 := n0_; have BK189 := n1_; have BK190 := n2_; have BK195 := n3_; have BK199 := n4_; have BK203 := n5_; have BK207 := n6_; have BK219 := n7_; have BK223 := n8_; have HB := n9_; clear n0_ n1_ n2_ n3_ n4_ n5_ n6_ n7_ n8_ n9_; (try clear hb); (try clear hb2); (try clear hk); (try clear hi)) | ((with_reducible refine gate_dst (N := 23) rfl ?_); refine box_event ?hg (N := 23) ?hd (cs := #[.int .i64 0, .int .i64 0]) (t := 23) ?hr ?_; (case hd => rfl); (case hg => rfl); (case hr => first | (go_simp; done) | (go_simp; rfl)); intro gb227 hg w278 hbox hb; have n0_ := Aside0.mk (blk_below (g := gb188) (o := .cells #[.int .i64 a0_0, .int .i64 a0_1] 23 (0, 0)) (by (with_reducible repeat first | apply b1 | apply b2 | apply b3); exact BK188.out) hb); have n1_ := Aside0.mk (blk_below (g := gb189) (o := .cells #[.int .i64 a1_0, .int .i64 a1_1] 23 (0, 0)) (by (with_reducible repeat first | apply b1 | apply b2 | apply b3); exact BK189.out) hb); have n2_ := Aside0.mk (blk_below (g := gb190) (o := .cells #[.int .i64 a2_0, .int .i64 a2_1] 23 (0, 0)) (by (with_reducible repeat first | apply b1 | apply b2 | apply b3); exact BK190.out) hb); have n3_ := Aside0.mk (blk_below (g := gb195) (o := .cells #[.int .i64 t192, .int .i64 t193] 23 (0, 0)) (by (with_reducible repeat first | apply b1 | apply b2 | apply b3); exact BK195.out) hb); have n4_ := Aside0.mk (blk_below (g := gb199) (o := .cells #[.int .i64 t196, .int .i64 t197] 23 (0, 0)) (by (with_reducible repeat first | apply b1 | apply b2 | apply b3); exact BK199.out) hb); have n5_ := Aside0.mk (blk_below (g := gb203) (o := .cells #[.int .i64 t200, .int .i64 t201] 23 (0, 0)) (by (with_reducible repeat first | apply b1 | apply b2 | apply b3); exact BK203.out) hb); have n6_ := Aside0.mk (blk_below (g := gb207) (o := .cells #[.int .i64 t204, .int .i64 t205] 23 (0, 0)) (by (with_reducible repeat first | apply b1 | apply b2 | apply b3); exact BK207.out) hb); have n7_ := Aside0.mk (blk_below (g := gb219) (o := .cells #[.int .i64 t216, .int .i64 t217] 23 (0, 0)) (by (with_reducible repeat first | apply b1 | apply b2 | apply b3); exact BK219.out) hb); have n8_ := Aside0.mk (blk_below (g := gb223) (o := .cells #[.int .i64 t220, .int .i64 t221] 23 (0, 0)) (by (with_reducible repeat first | apply b1 | apply b2 | apply b3); exact BK223.out) hb); have n9_ := Aside0.mk (below_step (by repeat (first | (with_reducible first | exact HB.out | apply b4 | apply b5 | apply b6 | refine below_set ?_ GE188.out | refine below_set ?_ GE189.out | refine below_set ?_ GE190.out | refine below_set ?_ GE195.out | refine below_set ?_ GE199.out | refine below_set ?_ GE203.out | refine below_set ?_ GE207.out | refine below_set ?_ GE219.out | refine below_set ?_ GE223.out) | exact HB.out)) hb); have n10_ := Aside0.mk (hbox); have n11_ := Aside0.mk ((by rw [hg]; exact (below_size (by repeat (first | (with_reducible first | exact HB.out | apply b4 | apply b5 | apply b6 | refine below_set ?_ GE188.out | refine below_set ?_ GE189.out | refine below_set ?_ GE190.out | refine below_set ?_ GE195.out | refine below_set ?_ GE199.out | refine below_set ?_ GE203.out | refine below_set ?_ GE207.out | refine below_set ?_ GE219.out | refine below_set ?_ GE223.out) | exact HB.out))) : w.heap.size ≤ gb227)); have n12_ := Aside0.mk ((by rw [hg]; exact (below_size (by repeat (first | (with_reducible first | exact HB.out | apply b4 | apply b5 | apply b6 | refine below_set ?_ GE188.out | refine below_set ?_ GE189.out | refine below_set ?_ GE190.out | refine below_set ?_ GE195.out | refine below_set ?_ GE199.out | refine below_set ?_ GE203.out | refine below_set ?_ GE207.out | refine below_set ?_ GE219.out | refine below_set ?_ GE223.out) | exact HB.out))) : w.heap.size ≤ gb227)); have n13_ := Aside0.mk ((by rw [hg]; exact Nat.ne_of_lt (blk_lt (g := gb188) (o := .cells #[.int .i64 a0_0, .int .i64 a0_1] 23 (0, 0)) (by (with_reducible repeat first | apply b1 | apply b2 | apply b3); exact BK188.out)) : gb188 ≠ gb227)); have n14_ := Aside0.mk ((by rw [hg]; exact Nat.ne_of_gt (blk_lt (g := gb188) (o := .cells #[.int .i64 a0_0, .int .i64 a0_1] 23 (0, 0)) (by (with_reducible repeat first | apply b1 | apply b2 | apply b3); exact BK188.out)) : gb227 ≠ gb188)); have n15_ := Aside0.mk ((by rw [hg]; exact Nat.ne_of_lt (blk_lt (g := gb189) (o := .cells #[.int .i64 a1_0, .int .i64 a1_1] 23 (0, 0)) (by (with_reducible repeat first | apply b1 | apply b2 | apply b3); exact BK189.out)) : gb189 ≠ gb227)); have n16_ := Aside0.mk ((by rw [hg]; exact Nat.ne_of_gt (blk_lt (g := gb189) (o := .cells #[.int .i64 a1_0, .int .i64 a1_1] 23 (0, 0)) (by (with_reducible repeat first | apply b1 | apply b2 | apply b3); exact BK189.out)) : gb227 ≠ gb189)); have n17_ := Aside0.mk ((by rw [hg]; exact Nat.ne_of_lt (blk_lt (g := gb190) (o := .cells #[.int .i64 a2_0, .int .i64 a2_1] 23 (0, 0)) (by (with_reducible repeat first | apply b1 | apply b2 | apply b3); exact BK190.out)) : gb190 ≠ gb227)); have n18_ := Aside0.mk ((by rw [hg]; exact Nat.ne_of_gt (blk_lt (g := gb190) (o := .cells #[.int .i64 a2_0, .int .i64 a2_1] 23 (0, 0)) (by (with_reducible repeat first | apply b1 | apply b2 | apply b3); exact BK190.out)) : gb227 ≠ gb190)); have n19_ := Aside0.mk ((by rw [hg]; exact Nat.ne_of_lt (blk_lt (g := gb195) (o := .cells #[.int .i64 t192, .int .i64 t193] 23 (0, 0)) (by (with_reducible repeat first | apply b1 | apply b2 | apply b3); exact BK195.out)) : gb195 ≠ gb227)); have n20_ := Aside0.mk ((by rw [hg]; exact Nat.ne_of_gt (blk_lt (g := gb195) (o := .cells #[.int .i64 t192, .int .i64 t193] 23 (0, 0)) (by (with_reducible repeat first | apply b1 | apply b2 | apply b3); exact BK195.out)) : gb227 ≠ gb195)); have n21_ := Aside0.mk ((by rw [hg]; exact Nat.ne_of_lt (blk_lt (g := gb199) (o := .cells #[.int .i64 t196, .int .i64 t197] 23 (0, 0)) (by (with_reducible repeat first | apply b1 | apply b2 | apply b3); exact BK199.out)) : gb199 ≠ gb227)); have n22_ := Aside0.mk ((by rw [hg]; exact Nat.ne_of_gt (blk_lt (g := gb199) (o := .cells #[.int .i64 t196, .int .i64 t197] 23 (0, 0)) (by (with_reducible repeat first | apply b1 | apply b2 | apply b3); exact BK199.out)) : gb227 ≠ gb199)); have n23_ := Aside0.mk ((by rw [hg]; exact Nat.ne_of_lt (blk_lt (g := gb203) (o := .cells #[.int .i64 t200, .int .i64 t201] 23 (0, 0)) (by (with_reducible repeat first | apply b1 | apply b2 | apply b3); exact BK203.out)) : gb203 ≠ gb227)); have n24_ := Aside0.mk ((by rw [hg]; exact Nat.ne_of_gt (blk_lt (g := gb203) (o := .cells #[.int .i64 t200, .int .i64 t201] 23 (0, 0)) (by (with_reducible repeat first | apply b1 | apply b2 | apply b3); exact BK203.out)) : gb227 ≠ gb203)); have n25_ := Aside0.mk ((by rw [hg]; exact Nat.ne_of_lt (blk_lt (g := gb207) (o := .cells #[.int .i64 t204, .int .i64 t205] 23 (0, 0)) (by (with_reducible repeat first | apply b1 | apply b2 | apply b3); exact BK207.out)) : gb207 ≠ gb227)); have n26_ := Aside0.mk ((by rw [hg]; exact Nat.ne_of_gt (blk_lt (g := gb207) (o := .cells #[.int .i64 t204, .int .i64 t205] 23 (0, 0)) (by (with_reducible repeat first | apply b1 | apply b2 | apply b3); exact BK207.out)) : gb227 ≠ gb207)); have n27_ := Aside0.mk ((by rw [hg]; exact Nat.ne_of_lt (blk_lt (g := gb219) (o := .cells #[.int .i64 t216, .int .i64 t217] 23 (0, 0)) (by (with_reducible repeat first | apply b1 | apply b2 | apply b3); exact BK219.out)) : gb219 ≠ gb227)); have n28_ := Aside0.mk ((by rw [hg]; exact Nat.ne_of_gt (blk_lt (g := gb219) (o := .cells #[.int .i64 t216, .int .i64 t217] 23 (0, 0)) (by (with_reducible repeat first | apply b1 | apply b2 | apply b3); exact BK219.out)) : gb227 ≠ gb219)); have n29_ := Aside0.mk ((by rw [hg]; exact Nat.ne_of_lt (blk_lt (g := gb223) (o := .cells #[.int .i64 t220, .int .i64 t221] 23 (0, 0)) (by (with_reducible repeat first | apply b1 | apply b2 | apply b3); exact BK223.out)) : gb223 ≠ gb227)); have n30_ := Aside0.mk ((by rw [hg]; exact Nat.ne_of_gt (blk_lt (g := gb223) (o := .cells #[.int .i64 t220, .int .i64 t221] 23 (0, 0)) (by (with_reducible repeat first | apply b1 | apply b2 | apply b3); exact BK223.out)) : gb227 ≠ gb223)); clear BK188; clear BK189; clear BK190; clear BK195; clear BK199; clear BK203; clear BK207; clear BK219; clear BK223; clear HB; have BK188 := n0_; have BK189 := n1_; have BK190 := n2_; have BK195 := n3_; have BK199 := n4_; have BK203 := n5_; have BK207 := n6_; have BK219 := n7_; have BK223 := n8_; have HB := n9_; have BK227 := n10_; have GW227 := n11_; have GE227 := n12_; have NB188_227 := n13_; have NB227_188 := n14_; have NB189_227 := n15_; have NB227_189 := n16_; have NB190_227 := n17_; have NB227_190 := n18_; have NB195_227 := n19_; have NB227_195 := n20_; have NB199_227 := n21_; have NB227_199 := n22_; have NB203_227 := n23_; have NB227_203 := n24_; have NB207_227 := n25_; have NB227_207 := n26_; have NB219_227 := n27_; have NB227_219 := n28_; have NB223_227 := n29_; have NB227_223 := n30_; clear n0_ n1_ n2_ n3_ n4_ n5_ n6_ n7_ n8_ n9_ n10_ n11_ n12_ n13_ n14_ n15_ n16_ n17_ n18_ n19_ n20_ n21_ n22_ n23_ n24_ n25_ n26_ n27_ n28_ n29_ n30_; clear hb hbox hg; have hnb279 := NB227_188.out; have hnc279 := NB188_227.out; have hnb280 := NB227_189.out; have hnc280 := NB189_227.out; have hnb281 := NB227_190.out; have hnc281 := NB190_227.out; have hnb282 := NB227_195.out; have hnc282 := NB195_227.out; have hnb283 := NB227_199.out; have hnc283 := NB199_227.out; have hnb284 := NB227_203.out; have hnc284 := NB203_227.out; have hnb285 := NB227_207.out; have hnc285 := NB207_227.out; have hnb286 := NB227_219.out; have hnc286 := NB219_227.out; have hnb287 := NB227_223.out; have hnc287 := NB223_227.out; have hcz288_0 : w278.cell? ⟨gb227, 0, none⟩ = some (.int .i64 0) := (blk_cell BK227.out 0).trans rfl; have hcz288_1 : w278.cell? ⟨gb227, 1, none⟩ = some (.int .i64 0) := (blk_cell BK227.out 1).trans rfl; have hfz288_0 := blk_frozen BK227.out 0; have hfz288_1 := blk_frozen BK227.out 1; have hcz289_0 : w278.cell? ⟨gb223, 0, none⟩ = some (.int .i64 t220) := (blk_cell BK223.out 0).trans rfl; have hcz289_1 : w278.cell? ⟨gb223, 1, none⟩ = some (.int .i64 t221) := (blk_cell BK223.out 1).trans rfl; have hfz289_0 := blk_frozen BK223.out 0; have hfz289_1 := blk_frozen BK223.out 1) | ((with_reducible refine gate_callee (f := 21) rfl ?_); refine goesL_ (some 127) rfl rfl Tryd.func21 (by kernel_rfl) rfl #[.agg #[.int .i64 t220, .int .i64 t221], .agg #[.int .i64 t224, .int .i64 t225]] rfl (by (try simp only [List.map_toArray, List.map_cons, List.map_nil]); first | done | rfl | (simp only [List.length_drop, List.length_take]; rfl)) ?_; (with_reducible refine (fraction_Add.calls kj182 t220 t221 t224 t225 t228 t229 t230 _ A230.out).mono ?_); rintro e w290 ⟨rfl, hb⟩; refine ⟨_, rfl, ?_⟩; have n0_ := Aside0.mk (blk_below (g := gb188) (o := .cells #[.int .i64 a0_0, .int .i64 a0_1] 23 (0, 0)) (by (with_reducible repeat first | apply b1 | apply b2 | apply b3); refine blk_far ?_ NB188_227.out _; (with_reducible repeat first | apply b1 | apply b2 | apply b3); refine blk_far ?_ NB188_227.out _; (with_reducible repeat first | apply b1 | apply b2 | apply b3); exact BK188.out) hb); have n1_ := Aside0.mk (blk_below (g := gb189) (o := .cells #[.int .i64 a1_0, .int .i64 a1_1] 23 (0, 0)) (by (with_reducible repeat first | apply b1 | apply b2 | apply b3); refine blk_far ?_ NB189_227.out _; (with_reducible repeat first | apply b1 | apply b2 | apply b3); refine blk_far ?_ NB189_227.out _; (with_reducible repeat first | apply b1 | apply b2 | apply b3); exact BK189.out) hb); have n2_ := Aside0.mk (blk_below (g := gb190) (o := .cells #[.int .i64 a2_0, .int .i64 a2_1] 23 (0, 0)) (by (with_reducible repeat first | apply b1 | apply b2 | apply b3); refine blk_far ?_ NB190_227.out _; (with_reducible repeat first | apply b1 | apply b2 | apply b3); refine blk_far ?_ NB190_227.out _; (with_reducible repeat first | apply b1 | apply b2 | apply b3); exact BK190.out) hb); have n3_ := Aside0.mk (blk_below (g := gb195) (o := .cells #[.int .i64 t192, .int .i64 t193] 23 (0, 0)) (by (with_reducible repeat first | apply b1 | apply b2 | apply b3); refine blk_far ?_ NB195_227.out _; (with_reducible repeat first | apply b1 | apply b2 | apply b3); refine blk_far ?_ NB195_227.out _; (with_reducible repeat first | apply b1 | apply b2 | apply b3); exact BK195.out) hb); have n4_ := Aside0.mk (blk_below (g := gb199) (o := .cells #[.int .i64 t196, .int .i64 t197] 23 (0, 0)) (by (with_reducible repeat first | apply b1 | apply b2 | apply b3); refine blk_far ?_ NB199_227.out _; (with_reducible repeat first | apply b1 | apply b2 | apply b3); refine blk_far ?_ NB199_227.out _; (with_reducible repeat first | apply b1 | apply b2 | apply b3); exact BK199.out) hb); have n5_ := Aside0.mk (blk_below (g := gb203) (o := .cells #[.int .i64 t200, .int .i64 t201] 23 (0, 0)) (by (with_reducible repeat first | apply b1 | apply b2 | apply b3); refine blk_far ?_ NB203_227.out _; (with_reducible repeat first | apply b1 | apply b2 | apply b3); refine blk_far ?_ NB203_227.out _; (with_reducible repeat first | apply b1 | apply b2 | apply b3); exact BK203.out) hb); have n6_ := Aside0.mk (blk_below (g := gb207) (o := .cells #[.int .i64 t204, .int .i64 t205] 23 (0, 0)) (by (with_reducible repeat first | apply b1 | apply b2 | apply b3); refine blk_far ?_ NB207_227.out _; (with_reducible repeat first | apply b1 | apply b2 | apply b3); refine blk_far ?_ NB207_227.out _; (with_reducible repeat first | apply b1 | apply b2 | apply b3); exact BK207.out) hb); have n7_ := Aside0.mk (blk_below (g := gb219) (o := .cells #[.int .i64 t216, .int .i64 t217] 23 (0, 0)) (by (with_reducible repeat first | apply b1 | apply b2 | apply b3); refine blk_far ?_ NB219_227.out _; (with_reducible repeat first | apply b1 | apply b2 | apply b3); refine blk_far ?_ NB219_227.out _; (with_reducible repeat first | apply b1 | apply b2 | apply b3); exact BK219.out) hb); have n8_ := Aside0.mk (blk_below (g := gb223) (o := .cells #[.int .i64 t220, .int .i64 t221] 23 (0, 0)) (by (with_reducible repeat first | apply b1 | apply b2 | apply b3); refine blk_far ?_ NB223_227.out _; (with_reducible repeat first | apply b1 | apply b2 | apply b3); refine blk_far ?_ NB223_227.out _; (with_reducible repeat first | apply b1 | apply b2 | apply b3); exact BK223.out) hb); have n9_ := Aside0.mk (blk_below (g := gb227) (o := .cells #[.int .i64 t224, .int .i64 t225] 23 (0, 0)) (by (with_reducible repeat first | apply b1 | apply b2 | apply b3); refine blk_put (cs := #[.int .i64 t224, .int .i64 0]) ?_ 1 _ rfl; (with_reducible repeat first | apply b1 | apply b2 | apply b3); refine blk_put (cs := #[.int .i64 0, .int .i64 0]) ?_ 0 _ rfl; (with_reducible repeat first | apply b1 | apply b2 | apply b3); exact BK227.out) hb); have n10_ := Aside0.mk (below_step (by repeat (first | (with_reducible first | exact HB.out | apply b4 | apply b5 | apply b6 | refine below_set ?_ GE188.out | refine below_set ?_ GE189.out | refine below_set ?_ GE190.out | refine below_set ?_ GE195.out | refine below_set ?_ GE199.out | refine below_set ?_ GE203.out | refine below_set ?_ GE207.out | refine below_set ?_ GE219.out | refine below_set ?_ GE223.out | refine below_set ?_ GE227.out) | exact HB.out)) hb); clear BK188; clear BK189; clear BK190; clear BK195; clear BK199; clear BK203; clear BK207; clear BK219; clear BK223; clear BK227; clear HB; have BK188 := n0_; have BK189 := n1_; have BK190 := n2_; have BK195 := n3_; have BK199 := n4_; have BK203 := n5_; have BK207 := n6_; have BK219 := n7_; have BK223 := n8_; have BK227 := n9_; have HB := n10_; clear n0_ n1_ n2_ n3_ n4_ n5_ n6_ n7_ n8_ n9_ n10_; (try clear hb); (try clear hb2); (try clear hk); (try clear hi)) | ((with_reducible refine gate_dst (N := 25) rfl ?_); refine box_event ?hg (N := 25) ?hd (cs := #[.int .i64 0, .int .i64 0]) (t := 23) ?hr ?_; (case hd => rfl); (case hg => rfl); (case hr => first | (go_simp; done) | (go_simp; rfl)); intro gb231 hg w291 hbox hb; have n0_ := Aside0.mk (blk_below (g := gb188) (o := .cells #[.int .i64 a0_0, .int .i64 a0_1] 23 (0, 0)) (by (with_reducible repeat first | apply b1 | apply b2 | apply b3); exact BK188.out) hb); have n1_ := Aside0.mk (blk_below (g := gb189) (o := .cells #[.int .i64 a1_0, .int .i64 a1_1] 23 (0, 0)) (by (with_reducible repeat first | apply b1 | apply b2 | apply b3); exact BK189.out) hb); have n2_ := Aside0.mk (blk_below (g := gb190) (o := .cells #[.int .i64 a2_0, .int .i64 a2_1] 23 (0, 0)) (by (with_reducible repeat first | apply b1 | apply b2 | apply b3); exact BK190.out) hb); have n3_ := Aside0.mk (blk_below (g := gb195) (o := .cells #[.int .i64 t192, .int .i64 t193] 23 (0, 0)) (by (with_reducible repeat first | apply b1 | apply b2 | apply b3); exact BK195.out) hb); have n4_ := Aside0.mk (blk_below (g := gb199) (o := .cells #[.int .i64 t196, .int .i64 t197] 23 (0, 0)) (by (with_reducible repeat first | apply b1 | apply b2 | apply b3); exact BK199.out) hb); have n5_ := Aside0.mk (blk_below (g := gb203) (o := .cells #[.int .i64 t200, .int .i64 t201] 23 (0, 0)) (by (with_reducible repeat first | apply b1 | apply b2 | apply b3); exact BK203.out) hb); have n6_ := Aside0.mk (blk_below (g := gb207) (o := .cells #[.int .i64 t204, .int .i64 t205] 23 (0, 0)) (by (with_reducible repeat first | apply b1 | apply b2 | apply b3); exact BK207.out) hb); have n7_ := Aside0.mk (blk_below (g := gb219) (o := .cells #[.int .i64 t216, .int .i64 t217] 23 (0, 0)) (by (with_reducible repeat first | apply b1 | apply b2 | apply b3); exact BK219.out) hb); have n8_ := Aside0.mk (blk_below (g := gb223) (o := .cells #[.int .i64 t220, .int .i64 t221] 23 (0, 0)) (by (with_reducible repeat first | apply b1 | apply b2 | apply b3); exact BK223.out) hb); have n9_ := Aside0.mk (blk_below (g := gb227) (o := .cells #[.int .i64 t224, .int .i64 t225] 23 (0, 0)) (by (with_reducible repeat first | apply b1 | apply b2 | apply b3); exact BK227.out) hb); have n10_ := Aside0.mk (below_step (by repeat (first | (with_reducible first | exact HB.out | apply b4 | apply b5 | apply b6 | refine below_set ?_ GE188.out | refine below_set ?_ GE189.out | refine below_set ?_ GE190.out | refine below_set ?_ GE195.out | refine below_set ?_ GE199.out | refine below_set ?_ GE203.out | refine below_set ?_ GE207.out | refine below_set ?_ GE219.out | refine below_set ?_ GE223.out | refine below_set ?_ GE227.out) | exact HB.out)) hb); have n11_ := Aside0.mk (hbox); have n12_ := Aside0.mk ((by rw [hg]; exact (below_size (by repeat (first | (with_reducible first | exact HB.out | apply b4 | apply b5 | apply b6 | refine below_set ?_ GE188.out | refine below_set ?_ GE189.out | refine below_set ?_ GE190.out | refine below_set ?_ GE195.out | refine below_set ?_ GE199.out | refine below_set ?_ GE203.out | refine below_set ?_ GE207.out | refine below_set ?_ GE219.out | refine below_set ?_ GE223.out | refine below_set ?_ GE227.out) | exact HB.out))) : w.heap.size ≤ gb231)); have n13_ := Aside0.mk ((by rw [hg]; exact (below_size (by repeat (first | (with_reducible first | exact HB.out | apply b4 | apply b5 | apply b6 | refine below_set ?_ GE188.out | refine below_set ?_ GE189.out | refine below_set ?_ GE190.out | refine below_set ?_ GE195.out | refine below_set ?_ GE199.out | refine below_set ?_ GE203.out | refine below_set ?_ GE207.out | refine below_set ?_ GE219.out | refine below_set ?_ GE223.out | refine below_set ?_ GE227.out) | exact HB.out))) : w.heap.size ≤ gb231)); have n14_ := Aside0.mk ((by rw [hg]; exact Nat.ne_of_lt (blk_lt (g := gb188) (o := .cells #[.int .i64 a0_0, .int .i64 a0_1] 23 (0, 0)) (by (with_reducible repeat first | apply b1 | apply b2 | apply b3); exact BK188.out)) : gb188 ≠ gb231)); have n15_ := Aside0.mk ((by rw [hg]; exact Nat.ne_of_gt (blk_lt (g := gb188) (o := .cells #[.int .i64 a0_0, .int .i64 a0_1] 23 (0, 0)) (by (with_reducible repeat first | apply b1 | apply b2 | apply b3); exact BK188.out)) : gb231 ≠ gb188)); have n16_ := Aside0.mk ((by rw [hg]; exact Nat.ne_of_lt (blk_lt (g := gb189) (o := .cells #[.int .i64 a1_0, .int .i64 a1_1] 23 (0, 0)) (by (with_reducible repeat first | apply b1 | apply b2 | apply b3); exact BK189.out)) : gb189 ≠ gb231)); have n17_ := Aside0.mk ((by rw [hg]; exact Nat.ne_of_gt (blk_lt (g := gb189) (o := .cells #[.int .i64 a1_0, .int .i64 a1_1] 23 (0, 0)) (by (with_reducible repeat first | apply b1 | apply b2 | apply b3); exact BK189.out)) : gb231 ≠ gb189)); have n18_ := Aside0.mk ((by rw [hg]; exact Nat.ne_of_lt (blk_lt (g := gb190) (o := .cells #[.int .i64 a2_0, .int .i64 a2_1] 23 (0, 0)) (by (with_reducible repeat first | apply b1 | apply b2 | apply b3); exact BK190.out)) : gb190 ≠ gb231)); have n19_ := Aside0.mk ((by rw [hg]; exact Nat.ne_of_gt (blk_lt (g := gb190) (o := .cells #[.int .i64 a2_0, .int .i64 a2_1] 23 (0, 0)) (by (with_reducible repeat first | apply b1 | apply b2 | apply b3); exact BK190.out)) : gb231 ≠ gb190)); have n20_ := Aside0.mk ((by rw [hg]; exact Nat.ne_of_lt (blk_lt (g := gb195) (o := .cells #[.int .i64 t192, .int .i64 t193] 23 (0, 0)) (by (with_reducible repeat first | apply b1 | apply b2 | apply b3); exact BK195.out)) : gb195 ≠ gb231)); have n21_ := Aside0.mk ((by rw [hg]; exact Nat.ne_of_gt (blk_lt (g := gb195) (o := .cells #[.int .i64 t192, .int .i64 t193] 23 (0, 0)) (by (with_reducible repeat first | apply b1 | apply b2 | apply b3); exact BK195.out)) : gb231 ≠ gb195)); have n22_ := Aside0.mk ((by rw [hg]; exact Nat.ne_of_lt (blk_lt (g := gb199) (o := .cells #[.int .i64 t196, .int .i64 t197] 23 (0, 0)) (by (with_reducible repeat first | apply b1 | apply b2 | apply b3); exact BK199.out)) : gb199 ≠ gb231)); have n23_ := Aside0.mk ((by rw [hg]; exact Nat.ne_of_gt (blk_lt (g := gb199) (o := .cells #[.int .i64 t196, .int .i64 t197] 23 (0, 0)) (by (with_reducible repeat first | apply b1 | apply b2 | apply b3); exact BK199.out)) : gb231 ≠ gb199)); have n24_ := Aside0.mk ((by rw [hg]; exact Nat.ne_of_lt (blk_lt (g := gb203) (o := .cells #[.int .i64 t200, .int .i64 t201] 23 (0, 0)) (by (with_reducible repeat first | apply b1 | apply b2 | apply b3); exact BK203.out)) : gb203 ≠ gb231)); have n25_ := Aside0.mk ((by rw [hg]; exact Nat.ne_of_gt (blk_lt (g := gb203) (o := .cells #[.int .i64 t200, .int .i64 t201] 23 (0, 0)) (by (with_reducible repeat first | apply b1 | apply b2 | apply b3); exact BK203.out)) : gb231 ≠ gb203)); have n26_ := Aside0.mk ((by rw [hg]; exact Nat.ne_of_lt (blk_lt (g := gb207) (o := .cells #[.int .i64 t204, .int .i64 t205] 23 (0, 0)) (by (with_reducible repeat first | apply b1 | apply b2 | apply b3); exact BK207.out)) : gb207 ≠ gb231)); have n27_ := Aside0.mk ((by rw [hg]; exact Nat.ne_of_gt (blk_lt (g := gb207) (o := .cells #[.int .i64 t204, .int .i64 t205] 23 (0, 0)) (by (with_reducible repeat first | apply b1 | apply b2 | apply b3); exact BK207.out)) : gb231 ≠ gb207)); have n28_ := Aside0.mk ((by rw [hg]; exact Nat.ne_of_lt (blk_lt (g := gb219) (o := .cells #[.int .i64 t216, .int .i64 t217] 23 (0, 0)) (by (with_reducible repeat first | apply b1 | apply b2 | apply b3); exact BK219.out)) : gb219 ≠ gb231)); have n29_ := Aside0.mk ((by rw [hg]; exact Nat.ne_of_gt (blk_lt (g := gb219) (o := .cells #[.int .i64 t216, .int .i64 t217] 23 (0, 0)) (by (with_reducible repeat first | apply b1 | apply b2 | apply b3); exact BK219.out)) : gb231 ≠ gb219)); have n30_ := Aside0.mk ((by rw [hg]; exact Nat.ne_of_lt (blk_lt (g := gb223) (o := .cells #[.int .i64 t220, .int .i64 t221] 23 (0, 0)) (by (with_reducible repeat first | apply b1 | apply b2 | apply b3); exact BK223.out)) : gb223 ≠ gb231)); have n31_ := Aside0.mk ((by rw [hg]; exact Nat.ne_of_gt (blk_lt (g := gb223) (o := .cells #[.int .i64 t220, .int .i64 t221] 23 (0, 0)) (by (with_reducible repeat first | apply b1 | apply b2 | apply b3); exact BK223.out)) : gb231 ≠ gb223)); have n32_ := Aside0.mk ((by rw [hg]; exact Nat.ne_of_lt (blk_lt (g := gb227) (o := .cells #[.int .i64 t224, .int .i64 t225] 23 (0, 0)) (by (with_reducible repeat first | apply b1 | apply b2 | apply b3); exact BK227.out)) : gb227 ≠ gb231)); have n33_ := Aside0.mk ((by rw [hg]; exact Nat.ne_of_gt (blk_lt (g := gb227) (o := .cells #[.int .i64 t224, .int .i64 t225] 23 (0, 0)) (by (with_reducible repeat first | apply b1 | apply b2 | apply b3); exact BK227.out)) : gb231 ≠ gb227)); clear BK188; clear BK189; clear BK190; clear BK195; clear BK199; clear BK203; clear BK207; clear BK219; clear BK223; clear BK227; clear HB; have BK188 := n0_; have BK189 := n1_; have BK190 := n2_; have BK195 := n3_; have BK199 := n4_; have BK203 := n5_; have BK207 := n6_; have BK219 := n7_; have BK223 := n8_; have BK227 := n9_; have HB := n10_; have BK231 := n11_; have GW231 := n12_; have GE231 := n13_; have NB188_231 := n14_; have NB231_188 := n15_; have NB189_231 := n16_; have NB231_189 := n17_; have NB190_231 := n18_; have NB231_190 := n19_; have NB195_231 := n20_; have NB231_195 := n21_; have NB199_231 := n22_; have NB231_199 := n23_; have NB203_231 := n24_; have NB231_203 := n25_; have NB207_231 := n26_; have NB231_207 := n27_; have NB219_231 := n28_; have NB231_219 := n29_; have NB223_231 := n30_; have NB231_223 := n31_; have NB227_231 := n32_; have NB231_227 := n33_; clear n0_ n1_ n2_ n3_ n4_ n5_ n6_ n7_ n8_ n9_ n10_ n11_ n12_ n13_ n14_ n15_ n16_ n17_ n18_ n19_ n20_ n21_ n22_ n23_ n24_ n25_ n26_ n27_ n28_ n29_ n30_ n31_ n32_ n33_; clear hb hbox hg; have hnb292 := NB231_188.out; have hnc292 := NB188_231.out; have hnb293 := NB231_189.out; have hnc293 := NB189_231.out; have hnb294 := NB231_190.out; have hnc294 := NB190_231.out; have hnb295 := NB231_195.out; have hnc295 := NB195_231.out; have hnb296 := NB231_199.out; have hnc296 := NB199_231.out; have hnb297 := NB231_203.out; have hnc297 := NB203_231.out; have hnb298 := NB231_207.out; have hnc298 := NB207_231.out; have hnb299 := NB231_219.out; have hnc299 := NB219_231.out; have hnb300 := NB231_223.out; have hnc300 := NB223_231.out; have hnb301 := NB231_227.out; have hnc301 := NB227_231.out; have hcz302_0 : w291.cell? ⟨gb231, 0, none⟩ = some (.int .i64 0) := (blk_cell BK231.out 0).trans rfl; have hcz302_1 : w291.cell? ⟨gb231, 1, none⟩ = some (.int .i64 0) := (blk_cell BK231.out 1).trans rfl; have hfz302_0 := blk_frozen BK231.out 0; have hfz302_1 := blk_frozen BK231.out 1))
           (try simp only [Act.put, List.setIfInBounds_toArray, List.set_cons_zero, List.set_cons_succ])
           go_cut [6] (fun v6 wc => ∃ (kq : Nat) (x6_230 : Bool), v6 = .bool x6_230 ∧ Aside0 (assessorlaw46_FractionField.j6 kq x6_230 = some r) ∧ Aside0 (kq ≤ kj182) ∧ Aside0 (wc.heap[gb188]? = some (.cells #[.int .i64 a0_0, .int .i64 a0_1] 23 (0, 0))) ∧ Aside0 (wc.heap[gb189]? = some (.cells #[.int .i64 a1_0, .int .i64 a1_1] 23 (0, 0))) ∧ Aside0 (wc.heap[gb190]? = some (.cells #[.int .i64 a2_0, .int .i64 a2_1] 23 (0, 0))) ∧ Aside0 (wc.heap[gb195]? = some (.cells #[.int .i64 t192, .int .i64 t193] 23 (0, 0))) ∧ Aside0 (wc.heap[gb199]? = some (.cells #[.int .i64 t196, .int .i64 t197] 23 (0, 0))) ∧ Aside0 (wc.heap[gb203]? = some (.cells #[.int .i64 t200, .int .i64 t201] 23 (0, 0))) ∧ Aside0 (wc.heap[gb207]? = some (.cells #[.int .i64 t204, .int .i64 t205] 23 (0, 0))) ∧ Aside0 (wc.heap[gb219]? = some (.cells #[.int .i64 t216, .int .i64 t217] 23 (0, 0))) ∧ Aside0 (wc.heap[gb223]? = some (.cells #[.int .i64 t220, .int .i64 t221] 23 (0, 0))) ∧ Aside0 (wc.heap[gb227]? = some (.cells #[.int .i64 t224, .int .i64 t225] 23 (0, 0))) ∧ Aside0 (wc.heap[gb231]? = some (.cells #[.int .i64 t228, .int .i64 t229] 23 (0, 0))) ∧ Aside0 (Below w.heap.size w wc))
           case first =>
            have H := HC231.out
            clear HC231
            by_cases c303 : t194 = 0
            ·
             rw [if_pos c303] at H
             have c303b0 : (t194 == 0) = true := beq_iff_eq.mpr c303
             have c303b1 : (t194 != 0) = false := bne_eq_false_iff_eq.mpr c303
             clear c303
             (first | rw [c303b0] | (simp only [i64_w, i32_w]; rw [c303b0]) | skip)
             by_cases c304 : t218 = 0
             ·
              rw [if_pos c304] at H
              have c304b0 : (t218 == 0) = true := beq_iff_eq.mpr c304
              have c304b1 : (t218 != 0) = false := bne_eq_false_iff_eq.mpr c304
              clear c304
              by_cases c305 : t222 = 0
              ·
               rw [if_pos c305] at H
               have c305b0 : (t222 == 0) = true := beq_iff_eq.mpr c305
               have c305b1 : (t222 != 0) = false := bne_eq_false_iff_eq.mpr c305
               clear c305
               by_cases c306 : t226 = 0
               ·
                rw [if_pos c306] at H
                have c306b0 : (t226 == 0) = true := beq_iff_eq.mpr c306
                have c306b1 : (t226 != 0) = false := bne_eq_false_iff_eq.mpr c306
                clear c306
                by_cases c307 : t230 = 0
                ·
                 rw [if_pos c307] at H
                 have c307b0 : (t230 == 0) = true := beq_iff_eq.mpr c307
                 have c307b1 : (t230 != 0) = false := bne_eq_false_iff_eq.mpr c307
                 clear c307
                 have H' := Aside0.mk H
                 clear H
                 have hnb308 := NB219_188.out
                 have hnc308 := NB188_219.out
                 have hnb309 := NB219_189.out
                 have hnc309 := NB189_219.out
                 have hnb310 := NB219_190.out
                 have hnc310 := NB190_219.out
                 have hnb311 := NB219_195.out
                 have hnc311 := NB195_219.out
                 have hnb312 := NB219_199.out
                 have hnc312 := NB199_219.out
                 have hnb313 := NB219_203.out
                 have hnc313 := NB203_219.out
                 have hnb314 := NB219_207.out
                 have hnc314 := NB207_219.out
                 have hnb315 := NB219_223.out
                 have hnc315 := NB223_219.out
                 have hnb316 := NB219_227.out
                 have hnc316 := NB227_219.out
                 have hnb317 := NB219_231.out
                 have hnc317 := NB231_219.out
                 have hcz318_0 : w291.cell? ⟨gb219, 0, none⟩ = some (.int .i64 t216) := (blk_cell BK219.out 0).trans rfl
                 have hcz318_1 : w291.cell? ⟨gb219, 1, none⟩ = some (.int .i64 t217) := (blk_cell BK219.out 1).trans rfl
                 have hfz318_0 := blk_frozen BK219.out 0
                 have hfz318_1 := blk_frozen BK219.out 1
                 have hnb319 := NB231_188.out
                 have hnc319 := NB188_231.out
                 have hnb320 := NB231_189.out
                 have hnc320 := NB189_231.out
                 have hnb321 := NB231_190.out
                 have hnc321 := NB190_231.out
                 have hnb322 := NB231_195.out
                 have hnc322 := NB195_231.out
                 have hnb323 := NB231_199.out
                 have hnc323 := NB199_231.out
                 have hnb324 := NB231_203.out
                 have hnc324 := NB203_231.out
                 have hnb325 := NB231_207.out
                 have hnc325 := NB207_231.out
                 have hnb326 := NB231_223.out
                 have hnc326 := NB223_231.out
                 have hnb327 := NB231_227.out
                 have hnc327 := NB227_231.out
                 have hcz328_0 : w291.cell? ⟨gb231, 0, none⟩ = some (.int .i64 0) := (blk_cell BK231.out 0).trans rfl
                 have hcz328_1 : w291.cell? ⟨gb231, 1, none⟩ = some (.int .i64 0) := (blk_cell BK231.out 1).trans rfl
                 have hfz328_0 := blk_frozen BK231.out 0
                 have hfz328_1 := blk_frozen BK231.out 1
                 go_wp2
                 go_meet
                 case rel => exact ⟨_, ((t216 == t228 && (t217 == t229))), (by first | rfl | (simp; done) | (simp [*]; done)), H', ⟨by have := HJ9.out; have := HJ129.out; have := HJ173.out; have := HJ182.out; first | omega | exact Nat.le_refl _⟩, ⟨by (with_reducible repeat first | apply b1 | apply b2 | apply b3); refine blk_far ?_ NB188_231.out _; (with_reducible repeat first | apply b1 | apply b2 | apply b3); refine blk_far ?_ NB188_231.out _; (with_reducible repeat first | apply b1 | apply b2 | apply b3); exact BK188.out⟩, ⟨by (with_reducible repeat first | apply b1 | apply b2 | apply b3); refine blk_far ?_ NB189_231.out _; (with_reducible repeat first | apply b1 | apply b2 | apply b3); refine blk_far ?_ NB189_231.out _; (with_reducible repeat first | apply b1 | apply b2 | apply b3); exact BK189.out⟩, ⟨by (with_reducible repeat first | apply b1 | apply b2 | apply b3); refine blk_far ?_ NB190_231.out _; (with_reducible repeat first | apply b1 | apply b2 | apply b3); refine blk_far ?_ NB190_231.out _; (with_reducible repeat first | apply b1 | apply b2 | apply b3); exact BK190.out⟩, ⟨by (with_reducible repeat first | apply b1 | apply b2 | apply b3); refine blk_far ?_ NB195_231.out _; (with_reducible repeat first | apply b1 | apply b2 | apply b3); refine blk_far ?_ NB195_231.out _; (with_reducible repeat first | apply b1 | apply b2 | apply b3); exact BK195.out⟩, ⟨by (with_reducible repeat first | apply b1 | apply b2 | apply b3); refine blk_far ?_ NB199_231.out _; (with_reducible repeat first | apply b1 | apply b2 | apply b3); refine blk_far ?_ NB199_231.out _; (with_reducible repeat first | apply b1 | apply b2 | apply b3); exact BK199.out⟩, ⟨by (with_reducible repeat first | apply b1 | apply b2 | apply b3); refine blk_far ?_ NB203_231.out _; (with_reducible repeat first | apply b1 | apply b2 | apply b3); refine blk_far ?_ NB203_231.out _; (with_reducible repeat first | apply b1 | apply b2 | apply b3); exact BK203.out⟩, ⟨by (with_reducible repeat first | apply b1 | apply b2 | apply b3); refine blk_far ?_ NB207_231.out _; (with_reducible repeat first | apply b1 | apply b2 | apply b3); refine blk_far ?_ NB207_231.out _; (with_reducible repeat first | apply b1 | apply b2 | apply b3); exact BK207.out⟩, ⟨by (with_reducible repeat first | apply b1 | apply b2 | apply b3); refine blk_far ?_ NB219_231.out _; (with_reducible repeat first | apply b1 | apply b2 | apply b3); refine blk_far ?_ NB219_231.out _; (with_reducible repeat first | apply b1 | apply b2 | apply b3); exact BK219.out⟩, ⟨by (with_reducible repeat first | apply b1 | apply b2 | apply b3); refine blk_far ?_ NB223_231.out _; (with_reducible repeat first | apply b1 | apply b2 | apply b3); refine blk_far ?_ NB223_231.out _; (with_reducible repeat first | apply b1 | apply b2 | apply b3); exact BK223.out⟩, ⟨by (with_reducible repeat first | apply b1 | apply b2 | apply b3); refine blk_far ?_ NB227_231.out _; (with_reducible repeat first | apply b1 | apply b2 | apply b3); refine blk_far ?_ NB227_231.out _; (with_reducible repeat first | apply b1 | apply b2 | apply b3); exact BK227.out⟩, ⟨by (with_reducible repeat first | apply b1 | apply b2 | apply b3); refine blk_put (cs := #[.int .i64 t228, .int .i64 0]) ?_ 1 _ rfl; (with_reducible repeat first | apply b1 | apply b2 | apply b3); refine blk_put (cs := #[.int .i64 0, .int .i64 0]) ?_ 0 _ rfl; (with_reducible repeat first | apply b1 | apply b2 | apply b3); exact BK231.out⟩, ⟨by repeat (first | (with_reducible first | exact HB.out | apply b4 | apply b5 | apply b6 | refine below_set ?_ GE188.out | refine below_set ?_ GE189.out | refine below_set ?_ GE190.out | refine below_set ?_ GE195.out | refine below_set ?_ GE199.out | refine below_set ?_ GE203.out | refine below_set ?_ GE207.out | refine below_set ?_ GE219.out | refine below_set ?_ GE223.out | refine below_set ?_ GE227.out | refine below_set ?_ GE231.out) | exact HB.out)⟩⟩
                ·
                 rw [if_neg c307] at H
                 have c307b0 : (t230 == 0) = false := beq_eq_false_iff_ne.mpr c307
                 have c307b1 : (t230 != 0) = true := bne_iff_ne.mpr c307
                 have H' := Aside0.mk H
                 clear H
                 go_wp2
                 go_meet
                 case rel => exact ⟨_, (true), (by first | rfl | (simp; done) | (simp [*]; done)), H', ⟨by have := HJ9.out; have := HJ129.out; have := HJ173.out; have := HJ182.out; first | omega | exact Nat.le_refl _⟩, ⟨by (with_reducible repeat first | apply b1 | apply b2 | apply b3); refine blk_far ?_ NB188_231.out _; (with_reducible repeat first | apply b1 | apply b2 | apply b3); refine blk_far ?_ NB188_231.out _; (with_reducible repeat first | apply b1 | apply b2 | apply b3); exact BK188.out⟩, ⟨by (with_reducible repeat first | apply b1 | apply b2 | apply b3); refine blk_far ?_ NB189_231.out _; (with_reducible repeat first | apply b1 | apply b2 | apply b3); refine blk_far ?_ NB189_231.out _; (with_reducible repeat first | apply b1 | apply b2 | apply b3); exact BK189.out⟩, ⟨by (with_reducible repeat first | apply b1 | apply b2 | apply b3); refine blk_far ?_ NB190_231.out _; (with_reducible repeat first | apply b1 | apply b2 | apply b3); refine blk_far ?_ NB190_231.out _; (with_reducible repeat first | apply b1 | apply b2 | apply b3); exact BK190.out⟩, ⟨by (with_reducible repeat first | apply b1 | apply b2 | apply b3); refine blk_far ?_ NB195_231.out _; (with_reducible repeat first | apply b1 | apply b2 | apply b3); refine blk_far ?_ NB195_231.out _; (with_reducible repeat first | apply b1 | apply b2 | apply b3); exact BK195.out⟩, ⟨by (with_reducible repeat first | apply b1 | apply b2 | apply b3); refine blk_far ?_ NB199_231.out _; (with_reducible repeat first | apply b1 | apply b2 | apply b3); refine blk_far ?_ NB199_231.out _; (with_reducible repeat first | apply b1 | apply b2 | apply b3); exact BK199.out⟩, ⟨by (with_reducible repeat first | apply b1 | apply b2 | apply b3); refine blk_far ?_ NB203_231.out _; (with_reducible repeat first | apply b1 | apply b2 | apply b3); refine blk_far ?_ NB203_231.out _; (with_reducible repeat first | apply b1 | apply b2 | apply b3); exact BK203.out⟩, ⟨by (with_reducible repeat first | apply b1 | apply b2 | apply b3); refine blk_far ?_ NB207_231.out _; (with_reducible repeat first | apply b1 | apply b2 | apply b3); refine blk_far ?_ NB207_231.out _; (with_reducible repeat first | apply b1 | apply b2 | apply b3); exact BK207.out⟩, ⟨by (with_reducible repeat first | apply b1 | apply b2 | apply b3); refine blk_far ?_ NB219_231.out _; (with_reducible repeat first | apply b1 | apply b2 | apply b3); refine blk_far ?_ NB219_231.out _; (with_reducible repeat first | apply b1 | apply b2 | apply b3); exact BK219.out⟩, ⟨by (with_reducible repeat first | apply b1 | apply b2 | apply b3); refine blk_far ?_ NB223_231.out _; (with_reducible repeat first | apply b1 | apply b2 | apply b3); refine blk_far ?_ NB223_231.out _; (with_reducible repeat first | apply b1 | apply b2 | apply b3); exact BK223.out⟩, ⟨by (with_reducible repeat first | apply b1 | apply b2 | apply b3); refine blk_far ?_ NB227_231.out _; (with_reducible repeat first | apply b1 | apply b2 | apply b3); refine blk_far ?_ NB227_231.out _; (with_reducible repeat first | apply b1 | apply b2 | apply b3); exact BK227.out⟩, ⟨by (with_reducible repeat first | apply b1 | apply b2 | apply b3); refine blk_put (cs := #[.int .i64 t228, .int .i64 0]) ?_ 1 _ rfl; (with_reducible repeat first | apply b1 | apply b2 | apply b3); refine blk_put (cs := #[.int .i64 0, .int .i64 0]) ?_ 0 _ rfl; (with_reducible repeat first | apply b1 | apply b2 | apply b3); exact BK231.out⟩, ⟨by repeat (first | (with_reducible first | exact HB.out | apply b4 | apply b5 | apply b6 | refine below_set ?_ GE188.out | refine below_set ?_ GE189.out | refine below_set ?_ GE190.out | refine below_set ?_ GE195.out | refine below_set ?_ GE199.out | refine below_set ?_ GE203.out | refine below_set ?_ GE207.out | refine below_set ?_ GE219.out | refine below_set ?_ GE223.out | refine below_set ?_ GE227.out | refine below_set ?_ GE231.out) | exact HB.out)⟩⟩
               ·
                rw [if_neg c306] at H
                have c306b0 : (t226 == 0) = false := beq_eq_false_iff_ne.mpr c306
                have c306b1 : (t226 != 0) = true := bne_iff_ne.mpr c306
                have H' := Aside0.mk H
                clear H
                go_wp2
                go_meet
                case rel => exact ⟨_, (true), (by first | rfl | (simp; done) | (simp [*]; done)), H', ⟨by have := HJ9.out; have := HJ129.out; have := HJ173.out; have := HJ182.out; first | omega | exact Nat.le_refl _⟩, ⟨by (with_reducible repeat first | apply b1 | apply b2 | apply b3); refine blk_far ?_ NB188_231.out _; (with_reducible repeat first | apply b1 | apply b2 | apply b3); refine blk_far ?_ NB188_231.out _; (with_reducible repeat first | apply b1 | apply b2 | apply b3); exact BK188.out⟩, ⟨by (with_reducible repeat first | apply b1 | apply b2 | apply b3); refine blk_far ?_ NB189_231.out _; (with_reducible repeat first | apply b1 | apply b2 | apply b3); refine blk_far ?_ NB189_231.out _; (with_reducible repeat first | apply b1 | apply b2 | apply b3); exact BK189.out⟩, ⟨by (with_reducible repeat first | apply b1 | apply b2 | apply b3); refine blk_far ?_ NB190_231.out _; (with_reducible repeat first | apply b1 | apply b2 | apply b3); refine blk_far ?_ NB190_231.out _; (with_reducible repeat first | apply b1 | apply b2 | apply b3); exact BK190.out⟩, ⟨by (with_reducible repeat first | apply b1 | apply b2 | apply b3); refine blk_far ?_ NB195_231.out _; (with_reducible repeat first | apply b1 | apply b2 | apply b3); refine blk_far ?_ NB195_231.out _; (with_reducible repeat first | apply b1 | apply b2 | apply b3); exact BK195.out⟩, ⟨by (with_reducible repeat first | apply b1 | apply b2 | apply b3); refine blk_far ?_ NB199_231.out _; (with_reducible repeat first | apply b1 | apply b2 | apply b3); refine blk_far ?_ NB199_231.out _; (with_reducible repeat first | apply b1 | apply b2 | apply b3); exact BK199.out⟩, ⟨by (with_reducible repeat first | apply b1 | apply b2 | apply b3); refine blk_far ?_ NB203_231.out _; (with_reducible repeat first | apply b1 | apply b2 | apply b3); refine blk_far ?_ NB203_231.out _; (with_reducible repeat first | apply b1 | apply b2 | apply b3); exact BK203.out⟩, ⟨by (with_reducible repeat first | apply b1 | apply b2 | apply b3); refine blk_far ?_ NB207_231.out _; (with_reducible repeat first | apply b1 | apply b2 | apply b3); refine blk_far ?_ NB207_231.out _; (with_reducible repeat first | apply b1 | apply b2 | apply b3); exact BK207.out⟩, ⟨by (with_reducible repeat first | apply b1 | apply b2 | apply b3); refine blk_far ?_ NB219_231.out _; (with_reducible repeat first | apply b1 | apply b2 | apply b3); refine blk_far ?_ NB219_231.out _; (with_reducible repeat first | apply b1 | apply b2 | apply b3); exact BK219.out⟩, ⟨by (with_reducible repeat first | apply b1 | apply b2 | apply b3); refine blk_far ?_ NB223_231.out _; (with_reducible repeat first | apply b1 | apply b2 | apply b3); refine blk_far ?_ NB223_231.out _; (with_reducible repeat first | apply b1 | apply b2 | apply b3); exact BK223.out⟩, ⟨by (with_reducible repeat first | apply b1 | apply b2 | apply b3); refine blk_far ?_ NB227_231.out _; (with_reducible repeat first | apply b1 | apply b2 | apply b3); refine blk_far ?_ NB227_231.out _; (with_reducible repeat first | apply b1 | apply b2 | apply b3); exact BK227.out⟩, ⟨by (with_reducible repeat first | apply b1 | apply b2 | apply b3); refine blk_put (cs := #[.int .i64 t228, .int .i64 0]) ?_ 1 _ rfl; (with_reducible repeat first | apply b1 | apply b2 | apply b3); refine blk_put (cs := #[.int .i64 0, .int .i64 0]) ?_ 0 _ rfl; (with_reducible repeat first | apply b1 | apply b2 | apply b3); exact BK231.out⟩, ⟨by repeat (first | (with_reducible first | exact HB.out | apply b4 | apply b5 | apply b6 | refine below_set ?_ GE188.out | refine below_set ?_ GE189.out | refine below_set ?_ GE190.out | refine below_set ?_ GE195.out | refine below_set ?_ GE199.out | refine below_set ?_ GE203.out | refine below_set ?_ GE207.out | refine below_set ?_ GE219.out | refine below_set ?_ GE223.out | refine below_set ?_ GE227.out | refine below_set ?_ GE231.out) | exact HB.out)⟩⟩
              ·
               rw [if_neg c305] at H
               have c305b0 : (t222 == 0) = false := beq_eq_false_iff_ne.mpr c305
               have c305b1 : (t222 != 0) = true := bne_iff_ne.mpr c305
               have H' := Aside0.mk H
               clear H
               go_wp2
               go_meet
               case rel => exact ⟨_, (true), (by first | rfl | (simp; done) | (simp [*]; done)), H', ⟨by have := HJ9.out; have := HJ129.out; have := HJ173.out; have := HJ182.out; first | omega | exact Nat.le_refl _⟩, ⟨by (with_reducible repeat first | apply b1 | apply b2 | apply b3); refine blk_far ?_ NB188_231.out _; (with_reducible repeat first | apply b1 | apply b2 | apply b3); refine blk_far ?_ NB188_231.out _; (with_reducible repeat first | apply b1 | apply b2 | apply b3); exact BK188.out⟩, ⟨by (with_reducible repeat first | apply b1 | apply b2 | apply b3); refine blk_far ?_ NB189_231.out _; (with_reducible repeat first | apply b1 | apply b2 | apply b3); refine blk_far ?_ NB189_231.out _; (with_reducible repeat first | apply b1 | apply b2 | apply b3); exact BK189.out⟩, ⟨by (with_reducible repeat first | apply b1 | apply b2 | apply b3); refine blk_far ?_ NB190_231.out _; (with_reducible repeat first | apply b1 | apply b2 | apply b3); refine blk_far ?_ NB190_231.out _; (with_reducible repeat first | apply b1 | apply b2 | apply b3); exact BK190.out⟩, ⟨by (with_reducible repeat first | apply b1 | apply b2 | apply b3); refine blk_far ?_ NB195_231.out _; (with_reducible repeat first | apply b1 | apply b2 | apply b3); refine blk_far ?_ NB195_231.out _; (with_reducible repeat first | apply b1 | apply b2 | apply b3); exact BK195.out⟩, ⟨by (with_reducible repeat first | apply b1 | apply b2 | apply b3); refine blk_far ?_ NB199_231.out _; (with_reducible repeat first | apply b1 | apply b2 | apply b3); refine blk_far ?_ NB199_231.out _; (with_reducible repeat first | apply b1 | apply b2 | apply b3); exact BK199.out⟩, ⟨by (with_reducible repeat first | apply b1 | apply b2 | apply b3); refine blk_far ?_ NB203_231.out _; (with_reducible repeat first | apply b1 | apply b2 | apply b3); refine blk_far ?_ NB203_231.out _; (with_reducible repeat first | apply b1 | apply b2 | apply b3); exact BK203.out⟩, ⟨by (with_reducible repeat first | apply b1 | apply b2 | apply b3); refine blk_far ?_ NB207_231.out _; (with_reducible repeat first | apply b1 | apply b2 | apply b3); refine blk_far ?_ NB207_231.out _; (with_reducible repeat first | apply b1 | apply b2 | apply b3); exact BK207.out⟩, ⟨by (with_reducible repeat first | apply b1 | apply b2 | apply b3); refine blk_far ?_ NB219_231.out _; (with_reducible repeat first | apply b1 | apply b2 | apply b3); refine blk_far ?_ NB219_231.out _; (with_reducible repeat first | apply b1 | apply b2 | apply b3); exact BK219.out⟩, ⟨by (with_reducible repeat first | apply b1 | apply b2 | apply b3); refine blk_far ?_ NB223_231.out _; (with_reducible repeat first | apply b1 | apply b2 | apply b3); refine blk_far ?_ NB223_231.out _; (with_reducible repeat first | apply b1 | apply b2 | apply b3); exact BK223.out⟩, ⟨by (with_reducible repeat first | apply b1 | apply b2 | apply b3); refine blk_far ?_ NB227_231.out _; (with_reducible repeat first | apply b1 | apply b2 | apply b3); refine blk_far ?_ NB227_231.out _; (with_reducible repeat first | apply b1 | apply b2 | apply b3); exact BK227.out⟩, ⟨by (with_reducible repeat first | apply b1 | apply b2 | apply b3); refine blk_put (cs := #[.int .i64 t228, .int .i64 0]) ?_ 1 _ rfl; (with_reducible repeat first | apply b1 | apply b2 | apply b3); refine blk_put (cs := #[.int .i64 0, .int .i64 0]) ?_ 0 _ rfl; (with_reducible repeat first | apply b1 | apply b2 | apply b3); exact BK231.out⟩, ⟨by repeat (first | (with_reducible first | exact HB.out | apply b4 | apply b5 | apply b6 | refine below_set ?_ GE188.out | refine below_set ?_ GE189.out | refine below_set ?_ GE190.out | refine below_set ?_ GE195.out | refine below_set ?_ GE199.out | refine below_set ?_ GE203.out | refine below_set ?_ GE207.out | refine below_set ?_ GE219.out | refine below_set ?_ GE223.out | refine below_set ?_ GE227.out | refine below_set ?_ GE231.out) | exact HB.out)⟩⟩
             ·
              rw [if_neg c304] at H
              have c304b0 : (t218 == 0) = false := beq_eq_false_iff_ne.mpr c304
              have c304b1 : (t218 != 0) = true := bne_iff_ne.mpr c304
              have H' := Aside0.mk H
              clear H
              go_wp2
              go_meet
              case rel => exact ⟨_, (true), (by first | rfl | (simp; done) | (simp [*]; done)), H', ⟨by have := HJ9.out; have := HJ129.out; have := HJ173.out; have := HJ182.out; first | omega | exact Nat.le_refl _⟩, ⟨by (with_reducible repeat first | apply b1 | apply b2 | apply b3); refine blk_far ?_ NB188_231.out _; (with_reducible repeat first | apply b1 | apply b2 | apply b3); refine blk_far ?_ NB188_231.out _; (with_reducible repeat first | apply b1 | apply b2 | apply b3); exact BK188.out⟩, ⟨by (with_reducible repeat first | apply b1 | apply b2 | apply b3); refine blk_far ?_ NB189_231.out _; (with_reducible repeat first | apply b1 | apply b2 | apply b3); refine blk_far ?_ NB189_231.out _; (with_reducible repeat first | apply b1 | apply b2 | apply b3); exact BK189.out⟩, ⟨by (with_reducible repeat first | apply b1 | apply b2 | apply b3); refine blk_far ?_ NB190_231.out _; (with_reducible repeat first | apply b1 | apply b2 | apply b3); refine blk_far ?_ NB190_231.out _; (with_reducible repeat first | apply b1 | apply b2 | apply b3); exact BK190.out⟩, ⟨by (with_reducible repeat first | apply b1 | apply b2 | apply b3); refine blk_far ?_ NB195_231.out _; (with_reducible repeat first | apply b1 | apply b2 | apply b3); refine blk_far ?_ NB195_231.out _; (with_reducible repeat first | apply b1 | apply b2 | apply b3); exact BK195.out⟩, ⟨by (with_reducible repeat first | apply b1 | apply b2 | apply b3); refine blk_far ?_ NB199_231.out _; (with_reducible repeat first | apply b1 | apply b2 | apply b3); refine blk_far ?_ NB199_231.out _; (with_reducible repeat first | apply b1 | apply b2 | apply b3); exact BK199.out⟩, ⟨by (with_reducible repeat first | apply b1 | apply b2 | apply b3); refine blk_far ?_ NB203_231.out _; (with_reducible repeat first | apply b1 | apply b2 | apply b3); refine blk_far ?_ NB203_231.out _; (with_reducible repeat first | apply b1 | apply b2 | apply b3); exact BK203.out⟩, ⟨by (with_reducible repeat first | apply b1 | apply b2 | apply b3); refine blk_far ?_ NB207_231.out _; (with_reducible repeat first | apply b1 | apply b2 | apply b3); refine blk_far ?_ NB207_231.out _; (with_reducible repeat first | apply b1 | apply b2 | apply b3); exact BK207.out⟩, ⟨by (with_reducible repeat first | apply b1 | apply b2 | apply b3); refine blk_far ?_ NB219_231.out _; (with_reducible repeat first | apply b1 | apply b2 | apply b3); refine blk_far ?_ NB219_231.out _; (with_reducible repeat first | apply b1 | apply b2 | apply b3); exact BK219.out⟩, ⟨by (with_reducible repeat first | apply b1 | apply b2 | apply b3); refine blk_far ?_ NB223_231.out _; (with_reducible repeat first | apply b1 | apply b2 | apply b3); refine blk_far ?_ NB223_231.out _; (with_reducible repeat first | apply b1 | apply b2 | apply b3); exact BK223.out⟩, ⟨by (with_reducible repeat first | apply b1 | apply b2 | apply b3); refine blk_far ?_ NB227_231.out _; (with_reducible repeat first | apply b1 | apply b2 | apply b3); refine blk_far ?_ NB227_231.out _; (with_reducible repeat first | apply b1 | apply b2 | apply b3); exact BK227.out⟩, ⟨by (with_reducible repeat first | apply b1 | apply b2 | apply b3); refine blk_put (cs := #[.int .i64 t228, .int .i64 0]) ?_ 1 _ rfl; (with_reducible repeat first | apply b1 | apply b2 | apply b3); refine blk_put (cs := #[.int .i64 0, .int .i64 0]) ?_ 0 _ rfl; (with_reducible repeat first | apply b1 | apply b2 | apply b3); exact BK231.out⟩, ⟨by repeat (first | (with_reducible first | exact HB.out | apply b4 | apply b5 | apply b6 | refine below_set ?_ GE188.out | refine below_set ?_ GE189.out | refine below_set ?_ GE190.out | refine below_set ?_ GE195.out | refine below_set ?_ GE199.out | refine below_set ?_ GE203.out | refine below_set ?_ GE207.out | refine below_set ?_ GE219.out | refine below_set ?_ GE223.out | refine below_set ?_ GE227.out | refine below_set ?_ GE231.out) | exact HB.out)⟩⟩
            ·
             rw [if_neg c303] at H
             have c303b0 : (t194 == 0) = false := beq_eq_false_iff_ne.mpr c303
             have c303b1 : (t194 != 0) = true := bne_iff_ne.mpr c303
             (first | rw [c303b0] | (simp only [i64_w, i32_w]; rw [c303b0]) | skip)
             have H' := Aside0.mk H
             clear H
             go_wp2
             go_meet
             case rel => exact ⟨_, (true), (by first | rfl | (simp; done) | (simp [*]; done)), H', ⟨by have := HJ9.out; have := HJ129.out; have := HJ173.out; have := HJ182.out; first | omega | exact Nat.le_refl _⟩, ⟨by (with_reducible repeat first | apply b1 | apply b2 | apply b3); refine blk_far ?_ NB188_231.out _; (with_reducible repeat first | apply b1 | apply b2 | apply b3); refine blk_far ?_ NB188_231.out _; (with_reducible repeat first | apply b1 | apply b2 | apply b3); exact BK188.out⟩, ⟨by (with_reducible repeat first | apply b1 | apply b2 | apply b3); refine blk_far ?_ NB189_231.out _; (with_reducible repeat first | apply b1 | apply b2 | apply b3); refine blk_far ?_ NB189_231.out _; (with_reducible repeat first | apply b1 | apply b2 | apply b3); exact BK189.out⟩, ⟨by (with_reducible repeat first | apply b1 | apply b2 | apply b3); refine blk_far ?_ NB190_231.out _; (with_reducible repeat first | apply b1 | apply b2 | apply b3); refine blk_far ?_ NB190_231.out _; (with_reducible repeat first | apply b1 | apply b2 | apply b3); exact BK190.out⟩, ⟨by (with_reducible repeat first | apply b1 | apply b2 | apply b3); refine blk_far ?_ NB195_231.out _; (with_reducible repeat first | apply b1 | apply b2 | apply b3); refine blk_far ?_ NB195_231.out _; (with_reducible repeat first | apply b1 | apply b2 | apply b3); exact BK195.out⟩, ⟨by (with_reducible repeat first | apply b1 | apply b2 | apply b3); refine blk_far ?_ NB199_231.out _; (with_reducible repeat first | apply b1 | apply b2 | apply b3); refine blk_far ?_ NB199_231.out _; (with_reducible repeat first | apply b1 | apply b2 | apply b3); exact BK199.out⟩, ⟨by (with_reducible repeat first | apply b1 | apply b2 | apply b3); refine blk_far ?_ NB203_231.out _; (with_reducible repeat first | apply b1 | apply b2 | apply b3); refine blk_far ?_ NB203_231.out _; (with_reducible repeat first | apply b1 | apply b2 | apply b3); exact BK203.out⟩, ⟨by (with_reducible repeat first | apply b1 | apply b2 | apply b3); refine blk_far ?_ NB207_231.out _; (with_reducible repeat first | apply b1 | apply b2 | apply b3); refine blk_far ?_ NB207_231.out _; (with_reducible repeat first | apply b1 | apply b2 | apply b3); exact BK207.out⟩, ⟨by (with_reducible repeat first | apply b1 | apply b2 | apply b3); refine blk_far ?_ NB219_231.out _; (with_reducible repeat first | apply b1 | apply b2 | apply b3); refine blk_far ?_ NB219_231.out _; (with_reducible repeat first | apply b1 | apply b2 | apply b3); exact BK219.out⟩, ⟨by (with_reducible repeat first | apply b1 | apply b2 | apply b3); refine blk_far ?_ NB223_231.out _; (with_reducible repeat first | apply b1 | apply b2 | apply b3); refine blk_far ?_ NB223_231.out _; (with_reducible repeat first | apply b1 | apply b2 | apply b3); exact BK223.out⟩, ⟨by (with_reducible repeat first | apply b1 | apply b2 | apply b3); refine blk_far ?_ NB227_231.out _; (with_reducible repeat first | apply b1 | apply b2 | apply b3); refine blk_far ?_ NB227_231.out _; (with_reducible repeat first | apply b1 | apply b2 | apply b3); exact BK227.out⟩, ⟨by (with_reducible repeat first | apply b1 | apply b2 | apply b3); refine blk_put (cs := #[.int .i64 t228, .int .i64 0]) ?_ 1 _ rfl; (with_reducible repeat first | apply b1 | apply b2 | apply b3); refine blk_put (cs := #[.int .i64 0, .int .i64 0]) ?_ 0 _ rfl; (with_reducible repeat first | apply b1 | apply b2 | apply b3); exact BK231.out⟩, ⟨by repeat (first | (with_reducible first | exact HB.out | apply b4 | apply b5 | apply b6 | refine below_set ?_ GE188.out | refine below_set ?_ GE189.out | refine below_set ?_ GE190.out | refine below_set ?_ GE195.out | refine below_set ?_ GE199.out | refine below_set ?_ GE203.out | refine below_set ?_ GE207.out | refine below_set ?_ GE219.out | refine below_set ?_ GE223.out | refine below_set ?_ GE227.out | refine below_set ?_ GE231.out) | exact HB.out)⟩⟩
           case rest =>
            clear HC231
            try clear c1
            try clear c2
            try clear p2
            try clear c3
            try clear c4
            try clear c5
            try clear c6
            try clear c7
            try clear c8
            try clear c9
            try clear c10
            try clear c11
            try clear c12
            try clear c13
            try clear c14
            try clear c15
            try clear c16
            try clear c17
            try clear c18
            try clear c19
            try clear c20
            try clear c21
            try clear c22
            try clear c23
            try clear c24
            try clear c25
            try clear c26
            try clear c27
            try clear c28
            try clear c29
            try clear c30
            try clear c31
            try clear c32
            try clear c33
            try clear c39
            try clear c40
            try clear c41
            try clear c42
            try clear c43
            try clear c49
            try clear c50
            try clear c51
            try clear c52
            try clear c53
            try clear c54
            try clear c56
            try clear c56b0
            try clear c57
            try clear c58
            try clear c59
            try clear c60
            try clear c61
            try clear c62
            try clear c64
            try clear c65
            try clear c66
            try clear c67
            try clear c68
            try clear c70
            try clear c70b0
            try clear c70b1
            try clear c71
            try clear c71b0
            try clear c72
            try clear c73
            try clear c74
            try clear c75
            try clear c76
            try clear c77
            try clear c79
            try clear c80
            try clear c81
            try clear c82
            try clear c83
            try clear c85
            try clear c86
            try clear c87
            try clear c88
            try clear c90
            try clear c91
            try clear c92
            try clear c94
            try clear c95
            try clear c96
            try clear c97
            try clear c98
            try clear c99
            try clear c101
            try clear c102
            try clear c103
            try clear c104
            try clear c105
            try clear c107
            try clear c108
            try clear c109
            try clear c110
            try clear c112
            try clear c113
            try clear c114
            try clear c116
            try clear c117
            try clear c118
            try clear c119
            try clear c120
            try clear c121
            try clear c123
            try clear c124
            try clear c125
            try clear c126
            try clear c127
            try clear c129
            try clear c131
            try clear c131b0
            try clear c131b1
            try clear c134
            try clear c135
            try clear c136
            try clear c137
            try clear c138
            try clear c139
            try clear c141
            try clear c142
            try clear c143
            try clear c144
            try clear c145
            try clear c149
            try clear c150
            try clear c151
            try clear c152
            try clear c153
            try clear c154
            try clear c155
            try clear c157
            try clear c157b0
            try clear c157b1
            try clear c158
            try clear c159
            try clear c160
            try clear c161
            try clear c162
            try clear c163
            try clear c164
            try clear c166
            try clear c167
            try clear c168
            try clear c169
            try clear c170
            try clear c171
            try clear c173
            try clear c175
            try clear c175b0
            try clear c175b1
            try clear c176
            try clear c177
            try clear c178
            try clear c179
            try clear c180
            try clear c181
            try clear c184
            try clear c187
            try clear c188
            try clear c189
            try clear c190
            try clear c191
            try clear c192
            try clear c194
            try clear c195
            try clear c196
            try clear c197
            try clear c198
            try clear c202
            try clear c203
            try clear c204
            try clear c205
            try clear c206
            try clear c207
            try clear c208
            try clear c210
            try clear c210b0
            try clear c210b1
            try clear c211
            try clear c212
            try clear c213
            try clear c214
            try clear c215
            try clear c216
            try clear c217
            try clear c219
            try clear c220
            try clear c221
            try clear c222
            try clear c223
            try clear c224
            try clear c226
            try clear c232
            try clear c233
            try clear c234
            try clear c235
            try clear c236
            try clear c237
            try clear c239
            try clear c240
            try clear c241
            try clear c242
            try clear c243
            try clear c247
            try clear c248
            try clear c249
            try clear c250
            try clear c251
            try clear c252
            try clear c253
            try clear c255
            try clear c256
            try clear c257
            try clear c258
            try clear c263
            try clear c264
            try clear c265
            try clear c266
            try clear c267
            try clear c268
            try clear c269
            try clear c270
            try clear c272
            try clear c273
            try clear c274
            try clear c279
            try clear c280
            try clear c281
            try clear c282
            try clear c283
            try clear c284
            try clear c285
            try clear c286
            try clear c287
            try clear c292
            try clear c293
            try clear c294
            try clear c295
            try clear c296
            try clear c297
            try clear c298
            try clear c299
            try clear c300
            try clear c301
            try clear c303
            try clear c303b0
            try clear c303b1
            try clear c304
            try clear c304b0
            try clear c304b1
            try clear c305
            try clear c305b0
            try clear c305b1
            try clear c306
            try clear c306b0
            try clear c306b1
            try clear c307
            try clear c307b0
            try clear c307b1
            try clear c308
            try clear c309
            try clear c310
            try clear c311
            try clear c312
            try clear c313
            try clear c314
            try clear c315
            try clear c316
            try clear c317
            try clear c319
            try clear c320
            try clear c321
            try clear c322
            try clear c323
            try clear c324
            try clear c325
            try clear c326
            try clear c327
            try clear hcz100_0
            try clear hcz100_1
            try clear hcz106_0
            try clear hcz106_1
            try clear hcz111_0
            try clear hcz111_1
            try clear hcz115_0
            try clear hcz115_1
            try clear hcz122_0
            try clear hcz122_1
            try clear hcz128_0
            try clear hcz128_1
            try clear hcz140_0
            try clear hcz140_1
            try clear hcz146_0
            try clear hcz146_1
            try clear hcz156_0
            try clear hcz156_1
            try clear hcz165_0
            try clear hcz165_1
            try clear hcz172_0
            try clear hcz172_1
            try clear hcz17_0
            try clear hcz17_1
            try clear hcz182_0
            try clear hcz182_1
            try clear hcz193_0
            try clear hcz193_1
            try clear hcz199_0
            try clear hcz199_1
            try clear hcz19_0
            try clear hcz19_1
            try clear hcz209_0
            try clear hcz209_1
            try clear hcz218_0
            try clear hcz218_1
            try clear hcz225_0
            try clear hcz225_1
            try clear hcz238_0
            try clear hcz238_1
            try clear hcz244_0
            try clear hcz244_1
            try clear hcz254_0
            try clear hcz254_1
            try clear hcz259_0
            try clear hcz259_1
            try clear hcz25_0
            try clear hcz25_1
            try clear hcz260_0
            try clear hcz260_1
            try clear hcz26_0
            try clear hcz26_1
            try clear hcz271_0
            try clear hcz271_1
            try clear hcz275_0
            try clear hcz275_1
            try clear hcz276_0
            try clear hcz276_1
            try clear hcz27_0
            try clear hcz27_1
            try clear hcz288_0
            try clear hcz288_1
            try clear hcz289_0
            try clear hcz289_1
            try clear hcz302_0
            try clear hcz302_1
            try clear hcz318_0
            try clear hcz318_1
            try clear hcz328_0
            try clear hcz328_1
            try clear hcz34_0
            try clear hcz34_1
            try clear hcz35_0
            try clear hcz35_1
            try clear hcz36_0
            try clear hcz36_1
            try clear hcz44_0
            try clear hcz44_1
            try clear hcz45_0
            try clear hcz45_1
            try clear hcz46_0
            try clear hcz46_1
            try clear hcz55_0
            try clear hcz55_1
            try clear hcz63_0
            try clear hcz63_1
            try clear hcz69_0
            try clear hcz69_1
            try clear hcz78_0
            try clear hcz78_1
            try clear hcz84_0
            try clear hcz84_1
            try clear hcz89_0
            try clear hcz89_1
            try clear hcz93_0
            try clear hcz93_1
            try clear hfz100_0
            try clear hfz100_1
            try clear hfz106_0
            try clear hfz106_1
            try clear hfz111_0
            try clear hfz111_1
            try clear hfz115_0
            try clear hfz115_1
            try clear hfz122_0
            try clear hfz122_1
            try clear hfz128_0
            try clear hfz128_1
            try clear hfz140_0
            try clear hfz140_1
            try clear hfz146_0
            try clear hfz146_1
            try clear hfz156_0
            try clear hfz156_1
            try clear hfz165_0
            try clear hfz165_1
            try clear hfz172_0
            try clear hfz172_1
            try clear hfz17_0
            try clear hfz17_1
            try clear hfz182_0
            try clear hfz182_1
            try clear hfz193_0
            try clear hfz193_1
            try clear hfz199_0
            try clear hfz199_1
            try clear hfz19_0
            try clear hfz19_1
            try clear hfz209_0
            try clear hfz209_1
            try clear hfz218_0
            try clear hfz218_1
            try clear hfz225_0
            try clear hfz225_1
            try clear hfz238_0
            try clear hfz238_1
            try clear hfz244_0
            try clear hfz244_1
            try clear hfz254_0
            try clear hfz254_1
            try clear hfz259_0
            try clear hfz259_1
            try clear hfz25_0
            try clear hfz25_1
            try clear hfz260_0
            try clear hfz260_1
            try clear hfz26_0
            try clear hfz26_1
            try clear hfz271_0
            try clear hfz271_1
            try clear hfz275_0
            try clear hfz275_1
            try clear hfz276_0
            try clear hfz276_1
            try clear hfz27_0
            try clear hfz27_1
            try clear hfz288_0
            try clear hfz288_1
            try clear hfz289_0
            try clear hfz289_1
            try clear hfz302_0
            try clear hfz302_1
            try clear hfz318_0
            try clear hfz318_1
            try clear hfz328_0
            try clear hfz328_1
            try clear hfz34_0
            try clear hfz34_1
            try clear hfz35_0
            try clear hfz35_1
            try clear hfz36_0
            try clear hfz36_1
            try clear hfz44_0
            try clear hfz44_1
            try clear hfz45_0
            try clear hfz45_1
            try clear hfz46_0
            try clear hfz46_1
            try clear hfz55_0
            try clear hfz55_1
            try clear hfz63_0
            try clear hfz63_1
            try clear hfz69_0
            try clear hfz69_1
            try clear hfz78_0
            try clear hfz78_1
            try clear hfz84_0
            try clear hfz84_1
            try clear hfz89_0
            try clear hfz89_1
            try clear hfz93_0
            try clear hfz93_1
            try clear p2
            obtain ⟨kq, x6_230, rfl, HA, HJ230, BK188, BK189, BK190, BK195, BK199, BK203, BK207, BK219, BK223, BK227, BK231, HB⟩ := hcut
            cases kq with
            | zero => exact absurd HA.out (by simp [assessorlaw46_FractionField.j6])
            | succ kj230 =>
             have H := HA.out
             clear HA
             simp only [assessorlaw46_FractionField.j6] at H
             obtain rfl := Option.some.inj H
             simp only [Option.some.injEq, Prod.mk.injEq] at H
             obtain ⟨rfl⟩ := H
             go_wp2
             go_ret
             exact ⟨by first | rfl | (simp [errW_none, errW_some] <;> rfl) | (simp [*, errW_none, errW_some] <;> rfl), by repeat (first | (with_reducible first | exact HB.out | apply b4 | apply b5 | apply b6 | refine below_set ?_ GE188.out | refine below_set ?_ GE189.out | refine below_set ?_ GE190.out | refine below_set ?_ GE195.out | refine below_set ?_ GE199.out | refine below_set ?_ GE203.out | refine below_set ?_ GE207.out | refine below_set ?_ GE219.out | refine below_set ?_ GE223.out | refine below_set ?_ GE227.out | refine below_set ?_ GE231.out) | exact HB.out)⟩
 ·
  replace c5 := Bool.eq_false_iff.mpr c5
  subst c5
  have H1 : (some false) = some r := by rw [if_neg (show ¬ (false = true) by decide)] at H; exact H
  clear H
  have H := H1
  clear H1
  obtain rfl := Option.some.inj H
  exact absurd hr_.out (by simp)

end Go.Proofs.YtkfibjmjamdigaaDoor.Q
