-- Written by wip/myprint.py (a program of this repo's own) out of the translation.
import Derived.Test.YtkfibjmjamdigaaDoorQF0
import Derived.Test.YtkfibjmjamdigaaDoorQF49
import Derived.Test.YtkfibjmjamdigaaDoorQTab
namespace Go.Proofs.YtkfibjmjamdigaaDoor.Q
open Go.RowKit Go.Proofs.YtkfibjmjamdigaaDoorW.PrintWords Go.Proofs.YtkfibjmjamdigaaDoorW.PrintLast Go.Proofs.YtkfibjmjamdigaaDoorW.PrintMore
attribute [local go_sem] max2_int min2_int max_two min_two max_three min_three max_four min_four   -- for this text's walks alone
set_option linter.unusedVariables false
set_option linter.unusedSimpArgs false

/-! ### fraction_point: function 45 -/
def fraction_point.j0 : Nat → Int → Int → ByteArray → Option (ByteArray)
  | 0, _, _, _ => none
  | k + 1, x0, x1, x5 => (fraction_abs.f x0).bind fun t104 => (if x1 = 0 then (none) else ((strconv_Itoa.f (wrap64 (x1 + (Int.tmod t104 x1)))).bind fun t105 => (if 1 ≤ (t105.size : Int) then ((fraction_abs.f x0).bind fun t106 => ((strconv_Itoa.f (wrap64 (Int.tdiv t106 x1))).bind fun t107 => (if x5.size + t107.size ≤ 9223372036854775807 then (if (x5 ++ t107).size + 1 ≤ 9223372036854775807 then (if ((x5 ++ t107) ++ (⟨#[46]⟩ : ByteArray)).size + (t105.extract 1 t105.size).size ≤ 9223372036854775807 then (some (((x5 ++ t107) ++ (⟨#[46]⟩ : ByteArray)) ++ (t105.extract 1 t105.size))) else (none)) else (none)) else (none)))) else (none))))
def fraction_point.f (k : Nat) (a0 : Int) (a1 : Int) : Option (ByteArray) := if a0 < 0 then (fraction_point.j0 k a0 a1 (⟨#[45]⟩ : ByteArray)) else (fraction_point.j0 k a0 a1 (⟨#[]⟩ : ByteArray))
theorem fraction_point.mono_l : ∀ k, (∀ y0 y1 y2, LeO (fraction_point.j0 k y0 y1 y2) (fraction_point.j0 (k + 1) y0 y1 y2))
  | 0 => fun _ _ _ r h => by simp [fraction_point.j0] at h
  | k + 1 => by
    have ih0 := fraction_point.mono_l k
    · intro y0 y1 y2
      unfold fraction_point.j0
      repeat' first
      | (with_reducible exact ih0 _ _ _)
      | (with_reducible exact LeO.refl _)
      | (with_reducible exact LeO.none _)
      | (with_reducible refine LeO.ite ?_ ?_)
      | (with_reducible refine LeO.bind ?_ (fun _ => ?_))
      | exact ih0 _ _ _
      | exact LeO.none _
      | refine LeO.ite ?_ ?_
      | refine LeO.bind ?_ (fun _ => ?_)
theorem fraction_point.mono : ∀ a0 a1 k, LeO (fraction_point.f k a0 a1) (fraction_point.f (k + 1) a0 a1) := by
  intro a0 a1 k
  have ih0 := fraction_point.mono_l k
  unfold fraction_point.f
  repeat' first
      | (with_reducible exact ih0 _ _ _)
      | (with_reducible exact LeO.refl _)
      | (with_reducible exact LeO.none _)
      | (with_reducible refine LeO.ite ?_ ?_)
      | (with_reducible refine LeO.bind ?_ (fun _ => ?_))
      | exact ih0 _ _ _
      | exact LeO.none _
      | refine LeO.ite ?_ ?_
      | refine LeO.bind ?_ (fun _ => ?_)
set_option maxHeartbeats 8000000 in
set_option maxRecDepth 100000 in
theorem fraction_point.calls (k : Nat) (a0 : Int) (a1 : Int) (r : ByteArray) (w : World) (hT_ : Tab w) (h : fraction_point.f k a0 a1 = some r) :
    Calls Tryd.prog 45 #[.int .i64 a0, .int .i64 a1] w fun e w' => e = .returned (.string r) ∧ Below w.heap.size w w' := by
  have HB := Aside0.mk (Below.refl w.heap.size w)
  have H : (if a0 < 0 then (fraction_point.j0 k a0 a1 (⟨#[45]⟩ : ByteArray)) else (fraction_point.j0 k a0 a1 (⟨#[]⟩ : ByteArray))) = some r := h
  clear h
  have HC3 := Aside0.mk H
  clear H
  go_enter Tryd.func45, Tryd.ntmps45
  go_upto_if 8 with (fail)
  go_cut [5] (fun v5 wc => ∃ (kq : Nat) (x5_2 : ByteArray), v5 = .string x5_2 ∧ Aside0 (fraction_point.j0 kq a0 a1 x5_2 = some r) ∧ Aside0 (kq ≤ k) ∧ Aside0 (Below w.heap.size w wc))
  case first =>
    have H := HC3.out
    clear HC3
    by_cases c4 : a0 < 0
    · rw [if_pos c4] at H
      have c4b0 : decide (a0 < 0) = true := decide_eq_true c4
      clear c4
      (first | rw [c4b0] | (simp only [i64_w, i32_w]; rw [c4b0]) | skip)
      have H' := Aside0.mk H
      clear H
      go_wp2
      go_meet
      case rel => exact ⟨_, ((⟨#[45]⟩ : ByteArray)), (by first | rfl | (simp; done) | (simp [*]; done)), H', ⟨by first | omega | exact Nat.le_refl _⟩, ⟨by repeat (first | (with_reducible first | exact HB.out | apply below_alloc | apply pw_below_drewN | apply below_drew1) | exact HB.out)⟩⟩
    · rw [if_neg c4] at H
      have c4b0 : decide (a0 < 0) = false := decide_eq_false c4
      clear c4
      (first | rw [c4b0] | (simp only [i64_w, i32_w]; rw [c4b0]) | skip)
      have H' := Aside0.mk H
      clear H
      go_wp2
      go_meet
      case rel => exact ⟨_, ((⟨#[]⟩ : ByteArray)), (by first | rfl | (simp; done) | (simp [*]; done)), H', ⟨by first | omega | exact Nat.le_refl _⟩, ⟨by repeat (first | (with_reducible first | exact HB.out | apply below_alloc | apply pw_below_drewN | apply below_drew1) | exact HB.out)⟩⟩
  case rest =>
    clear HC3
    try clear p2
    try clear c4
    try clear c4b0
    obtain ⟨kq, x5_2, rfl, HA, HJ2, HB⟩ := hcut
    cases kq with
    | zero => exact absurd HA.out (by simp [fraction_point.j0])
    | succ kj2 =>
      have H := HA.out
      clear HA
      simp only [fraction_point.j0] at H
      replace H := Option.bind_eq_some_iff.mp H
      obtain ⟨t104, A50, H⟩ := H
      replace H : (if a1 = 0 then (none) else ((strconv_Itoa.f (wrap64 (a1 + (Int.tmod t104 a1)))).bind fun t105 => (if 1 ≤ (t105.size : Int) then ((fraction_abs.f a0).bind fun t106 => ((strconv_Itoa.f (wrap64 (Int.tdiv t106 a1))).bind fun t107 => (if x5_2.size + t107.size ≤ 9223372036854775807 then (if (x5_2 ++ t107).size + 1 ≤ 9223372036854775807 then (if ((x5_2 ++ t107) ++ (⟨#[46]⟩ : ByteArray)).size + (t105.extract 1 t105.size).size ≤ 9223372036854775807 then (some (((x5_2 ++ t107) ++ (⟨#[46]⟩ : ByteArray)) ++ (t105.extract 1 t105.size))) else (none)) else (none)) else (none)))) else (none)))) = some r := H
      have A5 := Aside0.mk A50
      clear A50
      by_cases c6 : a1 = 0
      · rw [if_pos c6] at H
        exact absurd H (by simp)
      · rw [if_neg c6] at H
        have c6b0 : (a1 == 0) = false := beq_eq_false_iff_ne.mpr c6
        have c6b1 : (a1 != 0) = true := bne_iff_ne.mpr c6
        replace H := Option.bind_eq_some_iff.mp H
        obtain ⟨t105, A70, H⟩ := H
        replace H : (if 1 ≤ (t105.size : Int) then ((fraction_abs.f a0).bind fun t106 => ((strconv_Itoa.f (wrap64 (Int.tdiv t106 a1))).bind fun t107 => (if x5_2.size + t107.size ≤ 9223372036854775807 then (if (x5_2 ++ t107).size + 1 ≤ 9223372036854775807 then (if ((x5_2 ++ t107) ++ (⟨#[46]⟩ : ByteArray)).size + (t105.extract 1 t105.size).size ≤ 9223372036854775807 then (some (((x5_2 ++ t107) ++ (⟨#[46]⟩ : ByteArray)) ++ (t105.extract 1 t105.size))) else (none)) else (none)) else (none)))) else (none)) = some r := H
        have A7 := Aside0.mk A70
        clear A70
        by_cases c8 : 1 ≤ (t105.size : Int)
        · rw [if_pos c8] at H
          have c8b0 := eq_true c8
          have c8b1 : decide (1 ≤ (t105.size : Int)) = true := decide_eq_true c8
          clear c8
          replace H := Option.bind_eq_some_iff.mp H
          obtain ⟨t106, A90, H⟩ := H
          replace H : ((strconv_Itoa.f (wrap64 (Int.tdiv t106 a1))).bind fun t107 => (if x5_2.size + t107.size ≤ 9223372036854775807 then (if (x5_2 ++ t107).size + 1 ≤ 9223372036854775807 then (if ((x5_2 ++ t107) ++ (⟨#[46]⟩ : ByteArray)).size + (t105.extract 1 t105.size).size ≤ 9223372036854775807 then (some (((x5_2 ++ t107) ++ (⟨#[46]⟩ : ByteArray)) ++ (t105.extract 1 t105.size))) else (none)) else (none)) else (none))) = some r := H
          have A9 := Aside0.mk A90
          clear A90
          replace H := Option.bind_eq_some_iff.mp H
          obtain ⟨t107, A100, H⟩ := H
          replace H : (if x5_2.size + t107.size ≤ 9223372036854775807 then (if (x5_2 ++ t107).size + 1 ≤ 9223372036854775807 then (if ((x5_2 ++ t107) ++ (⟨#[46]⟩ : ByteArray)).size + (t105.extract 1 t105.size).size ≤ 9223372036854775807 then (some (((x5_2 ++ t107) ++ (⟨#[46]⟩ : ByteArray)) ++ (t105.extract 1 t105.size))) else (none)) else (none)) else (none)) = some r := H
          have A10 := Aside0.mk A100
          clear A100
          by_cases c11 : x5_2.size + t107.size ≤ 9223372036854775807
          · rw [if_pos c11] at H
            have c11b0 := eq_true c11
            have c11b1 : decide (x5_2.size + t107.size ≤ 9223372036854775807) = true := decide_eq_true c11
            try have c11b2 : (9223372036854775807 < x5_2.size + t107.size) = False := eq_false (Nat.not_lt.2 c11)
            by_cases c12 : (x5_2 ++ t107).size + 1 ≤ 9223372036854775807
            · rw [if_pos c12] at H
              have c12b0 := eq_true c12
              have c12b1 : decide ((x5_2 ++ t107).size + 1 ≤ 9223372036854775807) = true := decide_eq_true c12
              have c12b4 : x5_2.size + t107.size + 1 ≤ 9223372036854775807 := by have z_ := c12; (try simp only [ByteArray.size_append] at z_); exact z_
              have c12b5 : (9223372036854775807 < x5_2.size + t107.size + 1) = False := eq_false (Nat.not_lt.2 c12b4)
              try have c12b2 : (9223372036854775807 < (x5_2 ++ t107).size + 1) = False := eq_false (Nat.not_lt.2 c12)
              by_cases c13 : ((x5_2 ++ t107) ++ (⟨#[46]⟩ : ByteArray)).size + (t105.extract 1 t105.size).size ≤ 9223372036854775807
              · rw [if_pos c13] at H
                have c13b0 := eq_true c13
                have c13b1 : decide (((x5_2 ++ t107) ++ (⟨#[46]⟩ : ByteArray)).size + (t105.extract 1 t105.size).size ≤ 9223372036854775807) = true := decide_eq_true c13
                have c13b4 : x5_2.size + t107.size + 1 + (t105.extract 1 t105.size).size ≤ 9223372036854775807 := by have z_ := c13; (try simp only [ByteArray.size_append] at z_); exact z_
                have c13b5 : (9223372036854775807 < x5_2.size + t107.size + 1 + (t105.extract 1 t105.size).size) = False := eq_false (Nat.not_lt.2 c13b4)
                try have c13b2 : (9223372036854775807 < ((x5_2 ++ t107) ++ (⟨#[46]⟩ : ByteArray)).size + (t105.extract 1 t105.size).size) = False := eq_false (Nat.not_lt.2 c13)
                obtain rfl := Option.some.inj H
                simp only [Option.some.injEq, Prod.mk.injEq] at H
                obtain ⟨rfl⟩ := H
                go_wp2_with (first | ((with_reducible refine gate_callee (f := 49) rfl ?_); refine goesL_ (some 11) rfl rfl Tryd.func49 (by kernel_rfl) rfl #[.int .i64 a0] rfl (by (try simp only [List.map_toArray, List.map_cons, List.map_nil]); first | done | rfl | (simp only [List.length_drop, List.length_take]; rfl)) ?_; (with_reducible refine (fraction_abs.calls a0 t104 _ A5.out).mono ?_); rintro e w14 ⟨rfl, hb⟩; refine ⟨_, rfl, ?_⟩; have n0_ := Aside0.mk (below_step (by repeat (first | (with_reducible first | exact HB.out | apply below_alloc | apply pw_below_drewN | apply below_drew1) | exact HB.out)) hb); clear HB; have HB := n0_; clear n0_; (try clear hb); (try clear hb2); (try clear hk); (try clear hi)) | ((with_reducible refine gate_callee (f := 44) rfl ?_); refine goesL_ (some 15) rfl rfl Tryd.func44 (by kernel_rfl) rfl #[.int .i64 (wrap64 (a1 + (Int.tmod t104 a1)))] rfl (by (try simp only [List.map_toArray, List.map_cons, List.map_nil]); first | done | rfl | (simp only [List.length_drop, List.length_take]; rfl)) ?_; (with_reducible refine (strconv_Itoa.calls (wrap64 (a1 + (Int.tmod t104 a1))) t105 _ ?side1 A7.out).mono ?_); (case side1 => exact Tab.below hT_ (by repeat (first | (with_reducible first | exact HB.out | apply below_alloc | apply pw_below_drewN | apply below_drew1) | exact HB.out))); rintro e w15 ⟨rfl, hb⟩; refine ⟨_, rfl, ?_⟩; have n0_ := Aside0.mk (below_step (by repeat (first | (with_reducible first | exact HB.out | apply below_alloc | apply pw_below_drewN | apply below_drew1) | exact HB.out)) hb); clear HB; have HB := n0_; clear n0_; (try clear hb); (try clear hb2); (try clear hk); (try clear hi)) | ((with_reducible refine gate_callee (f := 49) rfl ?_); refine goesL_ (some 19) rfl rfl Tryd.func49 (by kernel_rfl) rfl #[.int .i64 a0] rfl (by (try simp only [List.map_toArray, List.map_cons, List.map_nil]); first | done | rfl | (simp only [List.length_drop, List.length_take]; rfl)) ?_; (with_reducible refine (fraction_abs.calls a0 t106 _ A9.out).mono ?_); rintro e w16 ⟨rfl, hb⟩; refine ⟨_, rfl, ?_⟩; have n0_ := Aside0.mk (below_step (by repeat (first | (with_reducible first | exact HB.out | apply below_alloc | apply pw_below_drewN | apply below_drew1) | exact HB.out)) hb); clear HB; have HB := n0_; clear n0_; (try clear hb); (try clear hb2); (try clear hk); (try clear hi)) | ((with_reducible refine gate_callee (f := 44) rfl ?_); refine goesL_ (some 22) rfl rfl Tryd.func44 (by kernel_rfl) rfl #[.int .i64 (wrap64 (Int.tdiv t106 a1))] rfl (by (try simp only [List.map_toArray, List.map_cons, List.map_nil]); first | done | rfl | (simp only [List.length_drop, List.length_take]; rfl)) ?_; (with_reducible refine (strconv_Itoa.calls (wrap64 (Int.tdiv t106 a1)) t107 _ ?side1 A10.out).mono ?_); (case side1 => exact Tab.below hT_ (by repeat (first | (with_reducible first | exact HB.out | apply below_alloc | apply pw_below_drewN | apply below_drew1) | exact HB.out))); rintro e w17 ⟨rfl, hb⟩; refine ⟨_, rfl, ?_⟩; have n0_ := Aside0.mk (below_step (by repeat (first | (with_reducible first | exact HB.out | apply below_alloc | apply pw_below_drewN | apply below_drew1) | exact HB.out)) hb); clear HB; have HB := n0_; clear n0_; (try clear hb); (try clear hb2); (try clear hk); (try clear hi)))
                go_ret
                exact ⟨by first | rfl | (simp [errW_none, errW_some] <;> rfl) | (simp [*, errW_none, errW_some] <;> rfl), by repeat (first | (with_reducible first | exact HB.out | apply below_alloc | apply pw_below_drewN | apply below_drew1) | exact HB.out)⟩
              · rw [if_neg c13] at H
                exact absurd H (by simp)
            · rw [if_neg c12] at H
              exact absurd H (by simp)
          · rw [if_neg c11] at H
            exact absurd H (by simp)
        · rw [if_neg c8] at H
          exact absurd H (by simp)

end Go.Proofs.YtkfibjmjamdigaaDoor.Q
