-- Written by wip/myprint.py (a program of this repo's own) out of the translation.
import Derived.Test.YtkfibjmjamdigaaDoorQF0
import Derived.Test.YtkfibjmjamdigaaDoorQF45
import Derived.Test.YtkfibjmjamdigaaDoorQTab
namespace Go.Proofs.YtkfibjmjamdigaaDoor.Q
open Go.RowKit Go.Proofs.YtkfibjmjamdigaaDoorW.PrintWords Go.Proofs.YtkfibjmjamdigaaDoorW.PrintLast Go.Proofs.YtkfibjmjamdigaaDoorW.PrintMore
attribute [local go_sem] max2_int min2_int max_two min_two max_three min_three max_four min_four   -- for this text's walks alone
set_option linter.unusedVariables false
set_option linter.unusedSimpArgs false

/-! ### fraction_Points: function 19 -/
def fraction_Points.f (k : Nat) (a0 : Int) : Option (ByteArray) := if a0 < (-100000000) then (some (⟨#[]⟩ : ByteArray)) else (if a0 > 100000000 then (some (⟨#[]⟩ : ByteArray)) else ((fraction_point.f k a0 100).bind fun t117 => (some t117)))
theorem fraction_Points.mono : ∀ a0 k, LeO (fraction_Points.f k a0) (fraction_Points.f (k + 1) a0) := by
  intro a0 k
  unfold fraction_Points.f
  repeat' first
      | (with_reducible exact fraction_point.mono _ _ _)
      | (with_reducible exact LeO.refl _)
      | (with_reducible exact LeO.none _)
      | (with_reducible refine LeO.ite ?_ ?_)
      | (with_reducible refine LeO.bind ?_ (fun _ => ?_))
      | exact fraction_point.mono _ _ _
      | exact LeO.none _
      | refine LeO.ite ?_ ?_
      | refine LeO.bind ?_ (fun _ => ?_)
set_option maxHeartbeats 8000000 in
set_option maxRecDepth 100000 in
theorem fraction_Points.calls (k : Nat) (a0 : Int) (r : ByteArray) (w : World) (hT_ : Tab w) (h : fraction_Points.f k a0 = some r) :
    Calls Tryd.prog 19 #[.int .i64 a0] w fun e w' => e = .returned (.string r) ∧ Below w.heap.size w w' := by
  have HB := Aside0.mk (Below.refl w.heap.size w)
  have H : (if a0 < (-100000000) then (some (⟨#[]⟩ : ByteArray)) else (if a0 > 100000000 then (some (⟨#[]⟩ : ByteArray)) else ((fraction_point.f k a0 100).bind fun t117 => (some t117)))) = some r := h
  clear h
  by_cases c2 : a0 < (-100000000)
  · rw [if_pos c2] at H
    have c2b0 : decide (a0 < (-100000000)) = true := decide_eq_true c2
    clear c2
    obtain rfl := Option.some.inj H
    simp only [Option.some.injEq, Prod.mk.injEq] at H
    obtain ⟨rfl⟩ := H
    go_enter Tryd.func19, Tryd.ntmps19
    go_wp2
    go_ret
    exact ⟨by first | rfl | (simp [errW_none, errW_some] <;> rfl) | (simp [*, errW_none, errW_some] <;> rfl), by repeat (first | (with_reducible first | exact HB.out | apply below_alloc | apply pw_below_drewN | apply below_drew1) | exact HB.out)⟩
  · rw [if_neg c2] at H
    have c2b0 : decide (a0 < (-100000000)) = false := decide_eq_false c2
    clear c2
    by_cases c3 : a0 > 100000000
    · rw [if_pos c3] at H
      have c3b0 : decide (100000000 < a0) = true := decide_eq_true c3
      clear c3
      obtain rfl := Option.some.inj H
      simp only [Option.some.injEq, Prod.mk.injEq] at H
      obtain ⟨rfl⟩ := H
      go_enter Tryd.func19, Tryd.ntmps19
      go_wp2
      go_ret
      exact ⟨by first | rfl | (simp [errW_none, errW_some] <;> rfl) | (simp [*, errW_none, errW_some] <;> rfl), by repeat (first | (with_reducible first | exact HB.out | apply below_alloc | apply pw_below_drewN | apply below_drew1) | exact HB.out)⟩
    · rw [if_neg c3] at H
      have c3b0 : decide (100000000 < a0) = false := decide_eq_false c3
      clear c3
      replace H := Option.bind_eq_some_iff.mp H
      obtain ⟨t117, A40, H⟩ := H
      replace H : (some t117) = some r := H
      have A4 := Aside0.mk A40
      clear A40
      obtain rfl := Option.some.inj H
      simp only [Option.some.injEq, Prod.mk.injEq] at H
      obtain ⟨rfl⟩ := H
      go_enter Tryd.func19, Tryd.ntmps19
      go_wp2_with (first | ((with_reducible refine gate_callee (f := 45) rfl ?_); refine goesL_ (some 10) rfl rfl Tryd.func45 (by kernel_rfl) rfl #[.int .i64 a0, .int .i64 100] rfl (by (try simp only [List.map_toArray, List.map_cons, List.map_nil]); first | done | rfl | (simp only [List.length_drop, List.length_take]; rfl)) ?_; (with_reducible refine (fraction_point.calls k a0 100 t117 _ ?side1 A4.out).mono ?_); (case side1 => exact Tab.below hT_ (by repeat (first | (with_reducible first | exact HB.out | apply below_alloc | apply pw_below_drewN | apply below_drew1) | exact HB.out))); rintro e w5 ⟨rfl, hb⟩; refine ⟨_, rfl, ?_⟩; have n0_ := Aside0.mk (below_step (by repeat (first | (with_reducible first | exact HB.out | apply below_alloc | apply pw_below_drewN | apply below_drew1) | exact HB.out)) hb); clear HB; have HB := n0_; clear n0_; (try clear hb); (try clear hb2); (try clear hk); (try clear hi)))
      go_ret
      exact ⟨by first | rfl | (simp [errW_none, errW_some] <;> rfl) | (simp [*, errW_none, errW_some] <;> rfl), by repeat (first | (with_reducible first | exact HB.out | apply below_alloc | apply pw_below_drewN | apply below_drew1) | exact HB.out)⟩

end Go.Proofs.YtkfibjmjamdigaaDoor.Q
