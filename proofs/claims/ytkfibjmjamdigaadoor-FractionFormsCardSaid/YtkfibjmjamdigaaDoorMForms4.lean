/- Texts of this claim, joined: part 5 of 6. -/
import Derived.Test.YtkfibjmjamdigaaDoorMForms2
import Derived.Test.YtkfibjmjamdigaaDoorMForms3
-- Written by wip/myprint.py (a program of this repo's own) out of the translation.
namespace Go.Proofs.YtkfibjmjamdigaaDoor.Q
open Go.RowKit Go.Proofs.YtkfibjmjamdigaaDoorW.PrintWords Go.Proofs.YtkfibjmjamdigaaDoorW.PrintLast Go.Proofs.YtkfibjmjamdigaaDoorW.PrintMore
attribute [local go_sem] max2_int min2_int max_two min_two max_three min_three max_four min_four   -- for this text's walks alone
set_option linter.unusedVariables false
set_option linter.unusedSimpArgs false

/-! ### assessorref46_Valid: function 16 -/
def assessorref46_Valid.f (k : Nat) (a0_0 : Int) (a0_1 : Int) : Option (Bool) := if a0_1 ≥ 1 then (if a0_1 ≤ 1000000 then (if a0_0 ≥ (-1000000000) then (if a0_0 ≤ 1000000000 then ((assessorref46_gcd.f k a0_0 a0_1).bind fun t143 => (some (t143 == 1))) else (some false)) else (some false)) else (some false)) else (some false)
theorem assessorref46_Valid.mono : ∀ a0 a1 k, LeO (assessorref46_Valid.f k a0 a1) (assessorref46_Valid.f (k + 1) a0 a1) := by
  intro a0 a1 k
  unfold assessorref46_Valid.f
  repeat' first
      | (with_reducible exact assessorref46_gcd.mono _ _ _)
      | (with_reducible exact LeO.refl _)
      | (with_reducible exact LeO.none _)
      | (with_reducible refine LeO.ite ?_ ?_)
      | (with_reducible refine LeO.bind ?_ (fun _ => ?_))
      | exact assessorref46_gcd.mono _ _ _
      | exact LeO.none _
      | refine LeO.ite ?_ ?_
      | refine LeO.bind ?_ (fun _ => ?_)
set_option maxHeartbeats 8000000 in
set_option maxRecDepth 100000 in
theorem assessorref46_Valid.calls (k : Nat) (a0_0 : Int) (a0_1 : Int) (r : Bool) (w : World) (h : assessorref46_Valid.f k a0_0 a0_1 = some r) :
    Calls Tryd.prog 16 #[.agg #[.int .i64 a0_0, .int .i64 a0_1]] w fun e w' => e = .returned (.bool r) ∧ Below w.heap.size w w' := by
  have hu23 := Tryd.underlying23
  have HB := Aside0.mk (Below.refl w.heap.size w)
  have H : (if a0_1 ≥ 1 then (if a0_1 ≤ 1000000 then (if a0_0 ≥ (-1000000000) then (if a0_0 ≤ 1000000000 then ((assessorref46_gcd.f k a0_0 a0_1).bind fun t143 => (some (t143 == 1))) else (some false)) else (some false)) else (some false)) else (some false)) = some r := h
  clear h
  by_cases c2 : a0_1 ≥ 1
  · rw [if_pos c2] at H
    have c2b0 : decide (1 ≤ a0_1) = true := decide_eq_true c2
    clear c2
    by_cases c3 : a0_1 ≤ 1000000
    · rw [if_pos c3] at H
      have c3b0 : decide (a0_1 ≤ 1000000) = true := decide_eq_true c3
      clear c3
      by_cases c4 : a0_0 ≥ (-1000000000)
      · rw [if_pos c4] at H
        have c4b0 : decide ((-1000000000) ≤ a0_0) = true := decide_eq_true c4
        clear c4
        by_cases c5 : a0_0 ≤ 1000000000
        · rw [if_pos c5] at H
          have c5b0 : decide (a0_0 ≤ 1000000000) = true := decide_eq_true c5
          clear c5
          replace H := Option.bind_eq_some_iff.mp H
          obtain ⟨t143, A60, H⟩ := H
          replace H : (some (t143 == 1)) = some r := H
          have A6 := Aside0.mk A60
          clear A60
          obtain rfl := Option.some.inj H
          simp only [Option.some.injEq, Prod.mk.injEq] at H
          obtain ⟨rfl⟩ := H
          go_enter Tryd.func16, Tryd.ntmps16
          go_wp2_with (first | ((with_reducible refine gate_dst (N := 1) rfl ?_); refine box_event ?hg (N := 1) ?hd (cs := #[.int .i64 a0_0, .int .i64 a0_1]) (t := 23) ?hr ?_; (case hd => rfl); (case hg => rfl); (case hr => first | (go_simp; done) | (go_simp; rfl)); intro gb142 hg w7 hbox hb; have n0_ := Aside0.mk (below_step (by repeat (first | (with_reducible first | exact HB.out | apply below_alloc | apply pw_below_drewN | apply below_drew1) | exact HB.out)) hb); have n1_ := Aside0.mk (hbox); have n2_ := Aside0.mk ((by rw [hg]; exact (below_size (by repeat (first | (with_reducible first | exact HB.out | apply below_alloc | apply pw_below_drewN | apply below_drew1) | exact HB.out))) : w.heap.size ≤ gb142)); have n3_ := Aside0.mk ((by rw [hg]; exact (below_size (by repeat (first | (with_reducible first | exact HB.out | apply below_alloc | apply pw_below_drewN | apply below_drew1) | exact HB.out))) : w.heap.size ≤ gb142)); clear HB; have HB := n0_; have BK142 := n1_; have GW142 := n2_; have GE142 := n3_; clear n0_ n1_ n2_ n3_; clear hb hbox hg; have hcz8_0 : w7.cell? ⟨gb142, 0, none⟩ = some (.int .i64 a0_0) := (blk_cell BK142.out 0).trans rfl; have hcz8_1 : w7.cell? ⟨gb142, 1, none⟩ = some (.int .i64 a0_1) := (blk_cell BK142.out 1).trans rfl; have hfz8_0 := blk_frozen BK142.out 0; have hfz8_1 := blk_frozen BK142.out 1) | (go_at_call 50; (with_reducible refine (assessorref46_gcd.calls k a0_0 a0_1 t143 _ A6.out).mono ?_); rintro e w' ⟨rfl, ⟨nd, rfl⟩⟩))
          go_ret
          exact ⟨by first | rfl | (simp [errW_none, errW_some] <;> rfl) | (simp [*, errW_none, errW_some] <;> rfl), by repeat (first | (with_reducible first | exact HB.out | apply below_alloc | apply pw_below_drewN | apply below_drew1 | refine below_set ?_ GE142.out) | exact HB.out)⟩
        · rw [if_neg c5] at H
          have c5b0 : decide (a0_0 ≤ 1000000000) = false := decide_eq_false c5
          clear c5
          obtain rfl := Option.some.inj H
          simp only [Option.some.injEq, Prod.mk.injEq] at H
          obtain ⟨rfl⟩ := H
          go_enter Tryd.func16, Tryd.ntmps16
          go_wp2_with (first | ((with_reducible refine gate_dst (N := 1) rfl ?_); refine box_event ?hg (N := 1) ?hd (cs := #[.int .i64 a0_0, .int .i64 a0_1]) (t := 23) ?hr ?_; (case hd => rfl); (case hg => rfl); (case hr => first | (go_simp; done) | (go_simp; rfl)); intro gb142 hg w9 hbox hb; have n0_ := Aside0.mk (below_step (by repeat (first | (with_reducible first | exact HB.out | apply below_alloc | apply pw_below_drewN | apply below_drew1) | exact HB.out)) hb); have n1_ := Aside0.mk (hbox); have n2_ := Aside0.mk ((by rw [hg]; exact (below_size (by repeat (first | (with_reducible first | exact HB.out | apply below_alloc | apply pw_below_drewN | apply below_drew1) | exact HB.out))) : w.heap.size ≤ gb142)); have n3_ := Aside0.mk ((by rw [hg]; exact (below_size (by repeat (first | (with_reducible first | exact HB.out | apply below_alloc | apply pw_below_drewN | apply below_drew1) | exact HB.out))) : w.heap.size ≤ gb142)); clear HB; have HB := n0_; have BK142 := n1_; have GW142 := n2_; have GE142 := n3_; clear n0_ n1_ n2_ n3_; clear hb hbox hg; have hcz10_0 : w9.cell? ⟨gb142, 0, none⟩ = some (.int .i64 a0_0) := (blk_cell BK142.out 0).trans rfl; have hcz10_1 : w9.cell? ⟨gb142, 1, none⟩ = some (.int .i64 a0_1) := (blk_cell BK142.out 1).trans rfl; have hfz10_0 := blk_frozen BK142.out 0; have hfz10_1 := blk_frozen BK142.out 1))
          go_ret
          exact ⟨by first | rfl | (simp [errW_none, errW_some] <;> rfl) | (simp [*, errW_none, errW_some] <;> rfl), by repeat (first | (with_reducible first | exact HB.out | apply below_alloc | apply pw_below_drewN | apply below_drew1 | refine below_set ?_ GE142.out) | exact HB.out)⟩
      · rw [if_neg c4] at H
        have c4b0 : decide ((-1000000000) ≤ a0_0) = false := decide_eq_false c4
        clear c4
        obtain rfl := Option.some.inj H
        simp only [Option.some.injEq, Prod.mk.injEq] at H
        obtain ⟨rfl⟩ := H
        go_enter Tryd.func16, Tryd.ntmps16
        go_wp2_with (first | ((with_reducible refine gate_dst (N := 1) rfl ?_); refine box_event ?hg (N := 1) ?hd (cs := #[.int .i64 a0_0, .int .i64 a0_1]) (t := 23) ?hr ?_; (case hd => rfl); (case hg => rfl); (case hr => first | (go_simp; done) | (go_simp; rfl)); intro gb142 hg w11 hbox hb; have n0_ := Aside0.mk (below_step (by repeat (first | (with_reducible first | exact HB.out | apply below_alloc | apply pw_below_drewN | apply below_drew1) | exact HB.out)) hb); have n1_ := Aside0.mk (hbox); have n2_ := Aside0.mk ((by rw [hg]; exact (below_size (by repeat (first | (with_reducible first | exact HB.out | apply below_alloc | apply pw_below_drewN | apply below_drew1) | exact HB.out))) : w.heap.size ≤ gb142)); have n3_ := Aside0.mk ((by rw [hg]; exact (below_size (by repeat (first | (with_reducible first | exact HB.out | apply below_alloc | apply pw_below_drewN | apply below_drew1) | exact HB.out))) : w.heap.size ≤ gb142)); clear HB; have HB := n0_; have BK142 := n1_; have GW142 := n2_; have GE142 := n3_; clear n0_ n1_ n2_ n3_; clear hb hbox hg; have hcz12_0 : w11.cell? ⟨gb142, 0, none⟩ = some (.int .i64 a0_0) := (blk_cell BK142.out 0).trans rfl; have hcz12_1 : w11.cell? ⟨gb142, 1, none⟩ = some (.int .i64 a0_1) := (blk_cell BK142.out 1).trans rfl; have hfz12_0 := blk_frozen BK142.out 0; have hfz12_1 := blk_frozen BK142.out 1))
        go_ret
        exact ⟨by first | rfl | (simp [errW_none, errW_some] <;> rfl) | (simp [*, errW_none, errW_some] <;> rfl), by repeat (first | (with_reducible first | exact HB.out | apply below_alloc | apply pw_below_drewN | apply below_drew1 | refine below_set ?_ GE142.out) | exact HB.out)⟩
    · rw [if_neg c3] at H
      have c3b0 : decide (a0_1 ≤ 1000000) = false := decide_eq_false c3
      clear c3
      obtain rfl := Option.some.inj H
      simp only [Option.some.injEq, Prod.mk.injEq] at H
      obtain ⟨rfl⟩ := H
      go_enter Tryd.func16, Tryd.ntmps16
      go_wp2_with (first | ((with_reducible refine gate_dst (N := 1) rfl ?_); refine box_event ?hg (N := 1) ?hd (cs := #[.int .i64 a0_0, .int .i64 a0_1]) (t := 23) ?hr ?_; (case hd => rfl); (case hg => rfl); (case hr => first | (go_simp; done) | (go_simp; rfl)); intro gb142 hg w13 hbox hb; have n0_ := Aside0.mk (below_step (by repeat (first | (with_reducible first | exact HB.out | apply below_alloc | apply pw_below_drewN | apply below_drew1) | exact HB.out)) hb); have n1_ := Aside0.mk (hbox); have n2_ := Aside0.mk ((by rw [hg]; exact (below_size (by repeat (first | (with_reducible first | exact HB.out | apply below_alloc | apply pw_below_drewN | apply below_drew1) | exact HB.out))) : w.heap.size ≤ gb142)); have n3_ := Aside0.mk ((by rw [hg]; exact (below_size (by repeat (first | (with_reducible first | exact HB.out | apply below_alloc | apply pw_below_drewN | apply below_drew1) | exact HB.out))) : w.heap.size ≤ gb142)); clear HB; have HB := n0_; have BK142 := n1_; have GW142 := n2_; have GE142 := n3_; clear n0_ n1_ n2_ n3_; clear hb hbox hg; have hcz14_0 : w13.cell? ⟨gb142, 0, none⟩ = some (.int .i64 a0_0) := (blk_cell BK142.out 0).trans rfl; have hcz14_1 : w13.cell? ⟨gb142, 1, none⟩ = some (.int .i64 a0_1) := (blk_cell BK142.out 1).trans rfl; have hfz14_0 := blk_frozen BK142.out 0; have hfz14_1 := blk_frozen BK142.out 1))
      go_ret
      exact ⟨by first | rfl | (simp [errW_none, errW_some] <;> rfl) | (simp [*, errW_none, errW_some] <;> rfl), by repeat (first | (with_reducible first | exact HB.out | apply below_alloc | apply pw_below_drewN | apply below_drew1 | refine below_set ?_ GE142.out) | exact HB.out)⟩
  · rw [if_neg c2] at H
    have c2b0 : decide (1 ≤ a0_1) = false := decide_eq_false c2
    clear c2
    obtain rfl := Option.some.inj H
    simp only [Option.some.injEq, Prod.mk.injEq] at H
    obtain ⟨rfl⟩ := H
    go_enter Tryd.func16, Tryd.ntmps16
    go_wp2_with (first | ((with_reducible refine gate_dst (N := 1) rfl ?_); refine box_event ?hg (N := 1) ?hd (cs := #[.int .i64 a0_0, .int .i64 a0_1]) (t := 23) ?hr ?_; (case hd => rfl); (case hg => rfl); (case hr => first | (go_simp; done) | (go_simp; rfl)); intro gb142 hg w15 hbox hb; have n0_ := Aside0.mk (below_step (by repeat (first | (with_reducible first | exact HB.out | apply below_alloc | apply pw_below_drewN | apply below_drew1) | exact HB.out)) hb); have n1_ := Aside0.mk (hbox); have n2_ := Aside0.mk ((by rw [hg]; exact (below_size (by repeat (first | (with_reducible first | exact HB.out | apply below_alloc | apply pw_below_drewN | apply below_drew1) | exact HB.out))) : w.heap.size ≤ gb142)); have n3_ := Aside0.mk ((by rw [hg]; exact (below_size (by repeat (first | (with_reducible first | exact HB.out | apply below_alloc | apply pw_below_drewN | apply below_drew1) | exact HB.out))) : w.heap.size ≤ gb142)); clear HB; have HB := n0_; have BK142 := n1_; have GW142 := n2_; have GE142 := n3_; clear n0_ n1_ n2_ n3_; clear hb hbox hg; have hcz16_0 : w15.cell? ⟨gb142, 0, none⟩ = some (.int .i64 a0_0) := (blk_cell BK142.out 0).trans rfl; have hcz16_1 : w15.cell? ⟨gb142, 1, none⟩ = some (.int .i64 a0_1) := (blk_cell BK142.out 1).trans rfl; have hfz16_0 := blk_frozen BK142.out 0; have hfz16_1 := blk_frozen BK142.out 1))
    go_ret
    exact ⟨by first | rfl | (simp [errW_none, errW_some] <;> rfl) | (simp [*, errW_none, errW_some] <;> rfl), by repeat (first | (with_reducible first | exact HB.out | apply below_alloc | apply pw_below_drewN | apply below_drew1 | refine below_set ?_ GE142.out) | exact HB.out)⟩

end Go.Proofs.YtkfibjmjamdigaaDoor.Q
-- Written by wip/myprint.py (a program of this repo's own) out of the translation.
namespace Go.Proofs.YtkfibjmjamdigaaDoor.Q
open Go.RowKit Go.Proofs.YtkfibjmjamdigaaDoorW.PrintWords Go.Proofs.YtkfibjmjamdigaaDoorW.PrintLast Go.Proofs.YtkfibjmjamdigaaDoorW.PrintMore
attribute [local go_sem] max2_int min2_int max_two min_two max_three min_three max_four min_four   -- for this text's walks alone
set_option linter.unusedVariables false
set_option linter.unusedSimpArgs false

/-! ### assessorref46_signed: function 46 -/
def assessorref46_signed.f (a0 : Int) : Option (ByteArray × Int) := if a0 < 0 then (some ((⟨#[45]⟩ : ByteArray), wrap64 (-a0))) else (some ((⟨#[]⟩ : ByteArray), a0))
set_option maxHeartbeats 8000000 in
set_option maxRecDepth 100000 in
theorem assessorref46_signed.calls (a0 : Int) (r1 : ByteArray) (r2 : Int) (w : World) (h : assessorref46_signed.f a0 = some (r1, r2)) :
    Calls Tryd.prog 46 #[.int .i64 a0] w fun e w' => e = .returned (.tuple #[.string r1, .int .i64 r2]) ∧ Drawn0 w w' := by
  have H : (if a0 < 0 then (some ((⟨#[45]⟩ : ByteArray), wrap64 (-a0))) else (some ((⟨#[]⟩ : ByteArray), a0))) = some (r1, r2) := h
  clear h
  by_cases c2 : a0 < 0
  · rw [if_pos c2] at H
    have c2b0 : decide (a0 < 0) = true := decide_eq_true c2
    clear c2
    simp only [Option.some.injEq, Prod.mk.injEq] at H
    obtain ⟨rfl, rfl⟩ := H
    go_enter Tryd.func46, Tryd.ntmps46
    go_wp2
    go_ret2
    exact ⟨by first | rfl | (simp; done) | (simp [*]; done), by repeat (first | exact Drawn0.refl _ | apply Drawn0.step)⟩
  · rw [if_neg c2] at H
    have c2b0 : decide (a0 < 0) = false := decide_eq_false c2
    clear c2
    simp only [Option.some.injEq, Prod.mk.injEq] at H
    obtain ⟨rfl, rfl⟩ := H
    go_enter Tryd.func46, Tryd.ntmps46
    go_wp2
    go_ret2
    exact ⟨by first | rfl | (simp; done) | (simp [*]; done), by repeat (first | exact Drawn0.refl _ | apply Drawn0.step)⟩

end Go.Proofs.YtkfibjmjamdigaaDoor.Q
-- Written by wip/myprint.py (a program of this repo's own) out of the translation.
namespace Go.Proofs.YtkfibjmjamdigaaDoor.Q
open Go.RowKit Go.Proofs.YtkfibjmjamdigaaDoorW.PrintWords Go.Proofs.YtkfibjmjamdigaaDoorW.PrintLast Go.Proofs.YtkfibjmjamdigaaDoorW.PrintMore
attribute [local go_sem] max2_int min2_int max_two min_two max_three min_three max_four min_four   -- for this text's walks alone
set_option linter.unusedVariables false
set_option linter.unusedSimpArgs false

/-! ### assessorref46_Number: function 47 -/
def assessorref46_Number.l0 : Nat → Int → ByteArray → Option (ByteArray)
  | 0, _, _ => none
  | k + 1, x0, x3 => if x3.toList = ([] : List UInt8) then ((some (([(wrap64 (48 + (Int.tmod x0 10))) % 256] : List Int) : List Int)).bind fun y144 => (if (strOfNums y144).size + x3.size ≤ 9223372036854775807 then (assessorref46_Number.l0 k (wrap64 (Int.tdiv x0 10)) ((strOfNums y144) ++ x3)) else (none))) else (if x0 > 0 then ((some (([(wrap64 (48 + (Int.tmod x0 10))) % 256] : List Int) : List Int)).bind fun y147 => (if (strOfNums y147).size + x3.size ≤ 9223372036854775807 then (assessorref46_Number.l0 k (wrap64 (Int.tdiv x0 10)) ((strOfNums y147) ++ x3)) else (none))) else (some x3))
def assessorref46_Number.f (k : Nat) (a0 : Int) : Option (ByteArray) := assessorref46_Number.l0 k a0 (⟨#[]⟩ : ByteArray)
theorem assessorref46_Number.mono_l : ∀ k, (∀ y0 y1, LeO (assessorref46_Number.l0 k y0 y1) (assessorref46_Number.l0 (k + 1) y0 y1))
  | 0 => fun _ _ r h => by simp [assessorref46_Number.l0] at h
  | k + 1 => by
    have ih0 := assessorref46_Number.mono_l k
    · intro y0 y1
      unfold assessorref46_Number.l0
      repeat' first
      | (with_reducible exact ih0 _ _)
      | (with_reducible exact LeO.refl _)
      | (with_reducible exact LeO.none _)
      | (with_reducible refine LeO.ite ?_ ?_)
      | (with_reducible refine LeO.bind ?_ (fun _ => ?_))
      | exact ih0 _ _
      | exact LeO.none _
      | refine LeO.ite ?_ ?_
      | refine LeO.bind ?_ (fun _ => ?_)
theorem assessorref46_Number.mono : ∀ a0 k, LeO (assessorref46_Number.f k a0) (assessorref46_Number.f (k + 1) a0) := by
  intro a0 k
  have ih0 := assessorref46_Number.mono_l k
  unfold assessorref46_Number.f
  repeat' first
      | (with_reducible exact ih0 _ _)
      | (with_reducible exact LeO.refl _)
      | (with_reducible exact LeO.none _)
      | (with_reducible refine LeO.ite ?_ ?_)
      | (with_reducible refine LeO.bind ?_ (fun _ => ?_))
      | exact ih0 _ _
      | exact LeO.none _
      | refine LeO.ite ?_ ?_
      | refine LeO.bind ?_ (fun _ => ?_)
set_option maxHeartbeats 8000000 in
set_option maxRecDepth 100000 in
theorem assessorref46_Number.calls (k : Nat) (a0 : Int) (r : ByteArray) (w : World) (h : assessorref46_Number.f k a0 = some r) :
    Calls Tryd.prog 47 #[.int .i64 a0] w fun e w' => e = .returned (.string r) ∧ Below w.heap.size w w' := by
  have HB := Aside0.mk (Below.refl w.heap.size w)
  have H : (assessorref46_Number.l0 k a0 (⟨#[]⟩ : ByteArray)) = some r := h
  clear h
  have H' := Aside0.mk H
  clear H
  go_enter Tryd.func47, Tryd.ntmps47
  go_wp2
  go_loopg [0, 3] k (fun kq v0 v3 w' => ∃ (x0_1 : Int) (x3_1 : ByteArray), v0 = .int .i64 x0_1 ∧ v3 = .string x3_1 ∧ Aside0 (assessorref46_Number.l0 kq x0_1 x3_1 = some r) ∧ Aside0 (kq ≤ k) ∧ Aside0 (Below w.heap.size w w'))
  case atStart => exact ⟨(a0), ((⟨#[]⟩ : ByteArray)), (by first | rfl | (simp; done) | (simp [*]; done)), (by first | rfl | (simp; done) | (simp [*]; done)), H', ⟨Nat.le_refl _⟩, ⟨by repeat (first | (with_reducible first | exact HB.out | apply below_alloc | apply pw_below_drewN | apply below_drew1) | exact HB.out)⟩⟩
  case round =>
    clear H'
    obtain ⟨x0_1, x3_1, rfl, rfl, HA, HK1, HB⟩ := hrel
    cases gk with
    | zero => exact absurd HA.out (by simp [assessorref46_Number.l0])
    | succ k1 =>
      have H := HA.out
      clear HA
      simp only [assessorref46_Number.l0] at H
      by_cases c2 : x3_1.toList = ([] : List UInt8)
      · rw [if_pos c2] at H
        have c2b0 : (x3_1.toList == ([] : List UInt8)) = true := beq_iff_eq.mpr c2
        have c2b1 : (x3_1.toList != ([] : List UInt8)) = false := bne_eq_false_iff_eq.mpr c2
        clear c2
        obtain ⟨y144, hy144⟩ : ∃ y_ : List Int, y_ = (([(wrap64 (48 + (Int.tmod x0_1 10))) % 256] : List Int)) := ⟨_, rfl⟩
        replace H : (if (strOfNums y144).size + x3_1.size ≤ 9223372036854775807 then (assessorref46_Number.l0 k1 (wrap64 (Int.tdiv x0_1 10)) ((strOfNums y144) ++ x3_1)) else (none)) = some r := by first | (rw [hy144]; with_reducible exact H) | (have H2_ := (Option.bind_some _ _).symm.trans H; rw [hy144]; with_reducible exact H2_) | (have H2_ := (Option.bind_some _ _).symm.trans H; with_reducible exact H2_) | with_reducible exact H | (rw [hy144]; exact H) | exact H
        have Ny144 := Aside0.mk hy144
        clear hy144
        by_cases c3 : (strOfNums y144).size + x3_1.size ≤ 9223372036854775807
        · rw [if_pos c3] at H
          have c3b0 := eq_true c3
          have c3b1 : decide ((strOfNums y144).size + x3_1.size ≤ 9223372036854775807) = true := decide_eq_true c3
          try have c3b2 : (9223372036854775807 < (strOfNums y144).size + x3_1.size) = False := eq_false (Nat.not_lt.2 c3)
          have H' := Aside0.mk H
          clear H
          go_wp2_with (first | ((with_reducible refine gate_dst (N := 14) rfl ?_); refine Kd.R_lit (Kd.int .u8) _ 5 ?hg (N := 14) ?hd (xs := ([(wrap64 (48 + (Int.tmod x0_1 10))) % 256] : List Int)) (inner := [.int .u8 ((wrap64 (48 + (Int.tmod x0_1 10))) % 256)]) (ok := fun _ => True) (okp := fun _ => True) ?hr ?hp (fun _ hk => hk) trivial (Below.refl _ _) (Nat.le_refl _) (by simp) ?_; (case hd => rfl); (case hg => rfl); (case hr => first | (go_simp; done) | (go_simp; rfl)); (case hp => exact (Reps.one (show Kd.M (Kd.int .u8) _ _ _ ((wrap64 (48 + (Int.tmod x0_1 10))) % 256) [.int .u8 ((wrap64 (48 + (Int.tmod x0_1 10))) % 256)] from rfl) (Reps.none _ _))); intro v145 w4 ho5 hb hg_ hnew_; clear hg_ hnew_; (first | rw [← Ny144.out] at ho5 | (simp only [Int.reduceToNat] at ho5; rw [← Ny144.out] at ho5)); have n0_ := Aside0.mk (Kd.R_lower ho5 (below_size (by repeat (first | (with_reducible first | exact HB.out | apply below_alloc | apply pw_below_drewN | apply below_drew1) | exact HB.out)))); have n1_ := Aside0.mk (below_step (by repeat (first | (with_reducible first | exact HB.out | apply below_alloc | apply pw_below_drewN | apply below_drew1) | exact HB.out)) hb); clear HB; have HO146 := n0_; have HB := n1_; clear n0_ n1_; clear hb ho5; have hcv6 := own_string (P := Tryd.prog) Tryd.underlying65 Tryd.underlying5 Tryd.underlying9 (Kd.own_of_R HO146.out)))
          go_roundg k1
          case measure => have := HK1.out; omega
          case rel => exact ⟨(wrap64 (Int.tdiv x0_1 10)), ((strOfNums y144) ++ x3_1), (by first | rfl | (simp; done) | (simp [*]; done)), (by first | rfl | (simp; done) | (simp [*]; done)), H', ⟨by have := HK1.out; omega⟩, ⟨by repeat (first | (with_reducible first | exact HB.out | apply below_alloc | apply pw_below_drewN | apply below_drew1) | exact HB.out)⟩⟩
        · rw [if_neg c3] at H
          exact absurd H (by simp)
      · rw [if_neg c2] at H
        have c2b0 : (x3_1.toList == ([] : List UInt8)) = false := beq_eq_false_iff_ne.mpr c2
        have c2b1 : (x3_1.toList != ([] : List UInt8)) = true := bne_iff_ne.mpr c2
        by_cases c7 : x0_1 > 0
        · rw [if_pos c7] at H
          have c7b0 : decide (0 < x0_1) = true := decide_eq_true c7
          clear c7
          obtain ⟨y147, hy147⟩ : ∃ y_ : List Int, y_ = (([(wrap64 (48 + (Int.tmod x0_1 10))) % 256] : List Int)) := ⟨_, rfl⟩
          replace H : (if (strOfNums y147).size + x3_1.size ≤ 9223372036854775807 then (assessorref46_Number.l0 k1 (wrap64 (Int.tdiv x0_1 10)) ((strOfNums y147) ++ x3_1)) else (none)) = some r := by first | (rw [hy147]; with_reducible exact H) | (have H2_ := (Option.bind_some _ _).symm.trans H; rw [hy147]; with_reducible exact H2_) | (have H2_ := (Option.bind_some _ _).symm.trans H; with_reducible exact H2_) | with_reducible exact H | (rw [hy147]; exact H) | exact H
          have Ny147 := Aside0.mk hy147
          clear hy147
          by_cases c8 : (strOfNums y147).size + x3_1.size ≤ 9223372036854775807
          · rw [if_pos c8] at H
            have c8b0 := eq_true c8
            have c8b1 : decide ((strOfNums y147).size + x3_1.size ≤ 9223372036854775807) = true := decide_eq_true c8
            try have c8b2 : (9223372036854775807 < (strOfNums y147).size + x3_1.size) = False := eq_false (Nat.not_lt.2 c8)
            have H' := Aside0.mk H
            clear H
            go_wp2_with (first | ((with_reducible refine gate_dst (N := 14) rfl ?_); refine Kd.R_lit (Kd.int .u8) _ 5 ?hg (N := 14) ?hd (xs := ([(wrap64 (48 + (Int.tmod x0_1 10))) % 256] : List Int)) (inner := [.int .u8 ((wrap64 (48 + (Int.tmod x0_1 10))) % 256)]) (ok := fun _ => True) (okp := fun _ => True) ?hr ?hp (fun _ hk => hk) trivial (Below.refl _ _) (Nat.le_refl _) (by simp) ?_; (case hd => rfl); (case hg => rfl); (case hr => first | (go_simp; done) | (go_simp; rfl)); (case hp => exact (Reps.one (show Kd.M (Kd.int .u8) _ _ _ ((wrap64 (48 + (Int.tmod x0_1 10))) % 256) [.int .u8 ((wrap64 (48 + (Int.tmod x0_1 10))) % 256)] from rfl) (Reps.none _ _))); intro v148 w9 ho10 hb hg_ hnew_; clear hg_ hnew_; (first | rw [← Ny147.out] at ho10 | (simp only [Int.reduceToNat] at ho10; rw [← Ny147.out] at ho10)); have n0_ := Aside0.mk (Kd.R_lower ho10 (below_size (by repeat (first | (with_reducible first | exact HB.out | apply below_alloc | apply pw_below_drewN | apply below_drew1) | exact HB.out)))); have n1_ := Aside0.mk (below_step (by repeat (first | (with_reducible first | exact HB.out | apply below_alloc | apply pw_below_drewN | apply below_drew1) | exact HB.out)) hb); clear HB; have HO149 := n0_; have HB := n1_; clear n0_ n1_; clear hb ho10; have hcv11 := own_string (P := Tryd.prog) Tryd.underlying65 Tryd.underlying5 Tryd.underlying9 (Kd.own_of_R HO149.out)))
            go_roundg k1
            case measure => have := HK1.out; omega
            case rel => exact ⟨(wrap64 (Int.tdiv x0_1 10)), ((strOfNums y147) ++ x3_1), (by first | rfl | (simp; done) | (simp [*]; done)), (by first | rfl | (simp; done) | (simp [*]; done)), H', ⟨by have := HK1.out; omega⟩, ⟨by repeat (first | (with_reducible first | exact HB.out | apply below_alloc | apply pw_below_drewN | apply below_drew1) | exact HB.out)⟩⟩
          · rw [if_neg c8] at H
            exact absurd H (by simp)
        · rw [if_neg c7] at H
          have c7b0 : decide (0 < x0_1) = false := decide_eq_false c7
          clear c7
          obtain rfl := Option.some.inj H
          simp only [Option.some.injEq, Prod.mk.injEq] at H
          obtain ⟨rfl⟩ := H
          go_wp2
          go_ret
          exact ⟨by first | rfl | (simp [errW_none, errW_some] <;> rfl) | (simp [*, errW_none, errW_some] <;> rfl), by repeat (first | (with_reducible first | exact HB.out | apply below_alloc | apply pw_below_drewN | apply below_drew1) | exact HB.out)⟩

end Go.Proofs.YtkfibjmjamdigaaDoor.Q
-- Written by wip/myprint.py (a program of this repo's own) out of the translation.
namespace Go.Proofs.YtkfibjmjamdigaaDoor.Q
open Go.RowKit Go.Proofs.YtkfibjmjamdigaaDoorW.PrintWords Go.Proofs.YtkfibjmjamdigaaDoorW.PrintLast Go.Proofs.YtkfibjmjamdigaaDoorW.PrintMore
attribute [local go_sem] max2_int min2_int max_two min_two max_three min_three max_four min_four   -- for this text's walks alone
set_option linter.unusedVariables false
set_option linter.unusedSimpArgs false

/-! ### assessorref46_Decimal: function 14 -/
mutual
def assessorref46_Decimal.j0 : Nat → Bool → Int → Int → Option (ByteArray × Bool)
  | 0, _, _, _ => none
  | k + 1, x16, x151000, x151001 => if x16 = true then (some ((⟨#[]⟩ : ByteArray), false)) else ((assessorref46_signed.f x151000).bind fun bt152 => (if x151001 = 0 then (none) else ((assessorref46_Number.f k (wrap64 (Int.tdiv bt152.2 x151001))).bind fun t154 => (if bt152.1.size + t154.size ≤ 9223372036854775807 then (if (Int.tmod bt152.2 x151001) > 0 then (if (bt152.1 ++ t154).size + 1 ≤ 9223372036854775807 then (assessorref46_Decimal.j1 k ((bt152.1 ++ t154) ++ (⟨#[46]⟩ : ByteArray)) (Int.tmod bt152.2 x151001) x151000 x151001) else (none)) else (assessorref46_Decimal.j1 k (bt152.1 ++ t154) (Int.tmod bt152.2 x151001) x151000 x151001)) else (none)))))
def assessorref46_Decimal.j1 : Nat → ByteArray → Int → Int → Int → Option (ByteArray × Bool)
  | 0, _, _, _, _ => none
  | k + 1, x6, x7, x151000, x151001 => assessorref46_Decimal.l0 k x6 x7 x151000 x151001
def assessorref46_Decimal.l0 : Nat → ByteArray → Int → Int → Int → Option (ByteArray × Bool)
  | 0, _, _, _, _ => none
  | k + 1, x6, x7, x151000, x151001 => if x7 > 0 then (if x151001 = 0 then (none) else ((assessorref46_Number.f k (wrap64 (Int.tdiv (wrap64 (10 * x7)) x151001))).bind fun t155 => (if x6.size + t155.size ≤ 9223372036854775807 then (assessorref46_Decimal.l0 k (x6 ++ t155) (Int.tmod (wrap64 (10 * x7)) x151001) x151000 x151001) else (none)))) else (some (x6, true))
end
def assessorref46_Decimal.f (k : Nat) (a0_0 : Int) (a0_1 : Int) : Option (ByteArray × Bool) := (assessorref46_Valid.f k a0_0 a0_1).bind fun t151 => (if t151 = true then (if a0_1 = 0 then (none) else (assessorref46_Decimal.j0 k (((1000000 : Int) % a0_1) != 0) a0_0 a0_1)) else (assessorref46_Decimal.j0 k true a0_0 a0_1))
theorem assessorref46_Decimal.mono_l : ∀ k, (∀ y0 y1 y2, LeO (assessorref46_Decimal.j0 k y0 y1 y2) (assessorref46_Decimal.j0 (k + 1) y0 y1 y2)) ∧ (∀ y0 y1 y2 y3, LeO (assessorref46_Decimal.j1 k y0 y1 y2 y3) (assessorref46_Decimal.j1 (k + 1) y0 y1 y2 y3)) ∧ (∀ y0 y1 y2 y3, LeO (assessorref46_Decimal.l0 k y0 y1 y2 y3) (assessorref46_Decimal.l0 (k + 1) y0 y1 y2 y3))
  | 0 => ⟨fun _ _ _ r h => by simp [assessorref46_Decimal.j0] at h, fun _ _ _ _ r h => by simp [assessorref46_Decimal.j1] at h, fun _ _ _ _ r h => by simp [assessorref46_Decimal.l0] at h⟩
  | k + 1 => by
    obtain ⟨ih0, ih1, ih2⟩ := assessorref46_Decimal.mono_l k
    refine ⟨?_, ?_, ?_⟩
    · intro y0 y1 y2
      unfold assessorref46_Decimal.j0
      repeat' first
      | (with_reducible exact ih0 _ _ _)
      | (with_reducible exact ih1 _ _ _ _)
      | (with_reducible exact ih2 _ _ _ _)
      | (with_reducible exact assessorref46_Number.mono _ _)
      | (with_reducible exact assessorref46_Valid.mono _ _ _)
      | (with_reducible exact LeO.refl _)
      | (with_reducible exact LeO.none _)
      | (with_reducible refine LeO.ite ?_ ?_)
      | (with_reducible refine LeO.bind ?_ (fun _ => ?_))
      | exact ih0 _ _ _
      | exact ih1 _ _ _ _
      | exact ih2 _ _ _ _
      | exact assessorref46_Number.mono _ _
      | exact assessorref46_Valid.mono _ _ _
      | exact LeO.none _
      | refine LeO.ite ?_ ?_
      | refine LeO.bind ?_ (fun _ => ?_)
    · intro y0 y1 y2 y3
      unfold assessorref46_Decimal.j1
      repeat' first
      | (with_reducible exact ih0 _ _ _)
      | (with_reducible exact ih1 _ _ _ _)
      | (with_reducible exact ih2 _ _ _ _)
      | (with_reducible exact assessorref46_Number.mono _ _)
      | (with_reducible exact assessorref46_Valid.mono _ _ _)
      | (with_reducible exact LeO.refl _)
      | (with_reducible exact LeO.none _)
      | (with_reducible refine LeO.ite ?_ ?_)
      | (with_reducible refine LeO.bind ?_ (fun _ => ?_))
      | exact ih0 _ _ _
      | exact ih1 _ _ _ _
      | exact ih2 _ _ _ _
      | exact assessorref46_Number.mono _ _
      | exact assessorref46_Valid.mono _ _ _
      | exact LeO.none _
      | refine LeO.ite ?_ ?_
      | refine LeO.bind ?_ (fun _ => ?_)
    · intro y0 y1 y2 y3
      unfold assessorref46_Decimal.l0
      repeat' first
      | (with_reducible exact ih0 _ _ _)
      | (with_reducible exact ih1 _ _ _ _)
      | (with_reducible exact ih2 _ _ _ _)
      | (with_reducible exact assessorref46_Number.mono _ _)
      | (with_reducible exact assessorref46_Valid.mono _ _ _)
      | (with_reducible exact LeO.refl _)
      | (with_reducible exact LeO.none _)
      | (with_reducible refine LeO.ite ?_ ?_)
      | (with_reducible refine LeO.bind ?_ (fun _ => ?_))
      | exact ih0 _ _ _
      | exact ih1 _ _ _ _
      | exact ih2 _ _ _ _
      | exact assessorref46_Number.mono _ _
      | exact assessorref46_Valid.mono _ _ _
      | exact LeO.none _
      | refine LeO.ite ?_ ?_
      | refine LeO.bind ?_ (fun _ => ?_)
theorem assessorref46_Decimal.mono : ∀ a0 a1 k, LeO (assessorref46_Decimal.f k a0 a1) (assessorref46_Decimal.f (k + 1) a0 a1) := by
  intro a0 a1 k
  obtain ⟨ih0, ih1, ih2⟩ := assessorref46_Decimal.mono_l k
  unfold assessorref46_Decimal.f
  repeat' first
      | (with_reducible exact ih0 _ _ _)
      | (with_reducible exact ih1 _ _ _ _)
      | (with_reducible exact ih2 _ _ _ _)
      | (with_reducible exact assessorref46_Number.mono _ _)
      | (with_reducible exact assessorref46_Valid.mono _ _ _)
      | (with_reducible exact LeO.refl _)
      | (with_reducible exact LeO.none _)
      | (with_reducible refine LeO.ite ?_ ?_)
      | (with_reducible refine LeO.bind ?_ (fun _ => ?_))
      | exact ih0 _ _ _
      | exact ih1 _ _ _ _
      | exact ih2 _ _ _ _
      | exact assessorref46_Number.mono _ _
      | exact assessorref46_Valid.mono _ _ _
      | exact LeO.none _
      | refine LeO.ite ?_ ?_
      | refine LeO.bind ?_ (fun _ => ?_)
def assessorref46_Decimal.T4 : Bool × List (List Nat × List Nat) := (true, [([], []), ([], []), ([], []), ([2], [2]), ([1, 3], [1, 3]), ([4], [4]), ([0, 5], [0, 5]), ([], []), ([], []), ([8], [8]), ([7, 9], [7, 9]), ([6, 5, 0, 1, 2, 3, 4, 5, 6], [6]), ([10, 11, 0, 1, 2, 3, 4, 5, 6, 7, 8, 9, 10, 11], [10])])
def assessorref46_Decimal.B4 : List Nat := [0, 0, 0, 4, 14, 30, 63, 0, 0, 256, 896, 127, 4095]
theorem assessorref46_Decimal.tab4 : rtab .any (opsOf Tryd.f14 4) = assessorref46_Decimal.T4 := by kernel_rfl
theorem assessorref46_Decimal.bits4 : waitsOk assessorref46_Decimal.T4.2 assessorref46_Decimal.B4 = true := by kernel_rfl
set_option maxHeartbeats 8000000 in
set_option maxRecDepth 100000 in
theorem assessorref46_Decimal.calls (k : Nat) (a0_0 : Int) (a0_1 : Int) (r1 : ByteArray) (r2 : Bool) (w : World) (h : assessorref46_Decimal.f k a0_0 a0_1 = some (r1, r2)) :
    Calls Tryd.prog 14 #[.agg #[.int .i64 a0_0, .int .i64 a0_1]] w fun e w' => e = .returned (.tuple #[.string r1, .bool r2]) ∧ Below w.heap.size w w' := by
  have hu23 := Tryd.underlying23
  have HB := Aside0.mk (Below.refl w.heap.size w)
  have H : ((assessorref46_Valid.f k a0_0 a0_1).bind fun t151 => (if t151 = true then (if a0_1 = 0 then (none) else (assessorref46_Decimal.j0 k (((1000000 : Int) % a0_1) != 0) a0_0 a0_1)) else (assessorref46_Decimal.j0 k true a0_0 a0_1))) = some (r1, r2) := h
  clear h
  have HC2 := Aside0.mk H
  clear H
  go_enter Tryd.func14, Tryd.ntmps14
  go_upto_region 1 with (first | ((with_reducible refine gate_dst (N := 1) rfl ?_); refine box_event ?hg (N := 1) ?hd (cs := #[.int .i64 a0_0, .int .i64 a0_1]) (t := 23) ?hr ?_; (case hd => rfl); (case hg => rfl); (case hr => first | (go_simp; done) | (go_simp; rfl)); intro gb150 hg w3 hbox hb; have n0_ := Aside0.mk (below_step (by repeat (first | (with_reducible first | exact HB.out | apply below_alloc | apply pw_below_drewN | apply below_drew1) | exact HB.out)) hb); have n1_ := Aside0.mk (hbox); have n2_ := Aside0.mk ((by rw [hg]; exact (below_size (by repeat (first | (with_reducible first | exact HB.out | apply below_alloc | apply pw_below_drewN | apply below_drew1) | exact HB.out))) : w.heap.size ≤ gb150)); have n3_ := Aside0.mk ((by rw [hg]; exact (below_size (by repeat (first | (with_reducible first | exact HB.out | apply below_alloc | apply pw_below_drewN | apply below_drew1) | exact HB.out))) : w.heap.size ≤ gb150)); clear HB; have HB := n0_; have BK150 := n1_; have GW150 := n2_; have GE150 := n3_; clear n0_ n1_ n2_ n3_; clear hb hbox hg))
  (try simp only [Act.put, List.setIfInBounds_toArray, List.set_cons_zero, List.set_cons_succ])
  go_cut [16] (fun v16 wc => ∃ (kq : Nat) (x16_1 : Bool), v16 = .bool x16_1 ∧ Aside0 (assessorref46_Decimal.j0 kq x16_1 a0_0 a0_1 = some (r1, r2)) ∧ Aside0 (kq ≤ k) ∧ Aside0 (wc.heap[gb150]? = some (.cells #[.int .i64 a0_0, .int .i64 a0_1] 23 (0, 0))) ∧ Aside0 (Below w.heap.size w wc))
  case first =>
    have H := HC2.out
    clear HC2
    replace H := Option.bind_eq_some_iff.mp H
    obtain ⟨t151, A40, H⟩ := H
    replace H : (if t151 = true then (if a0_1 = 0 then (none) else (assessorref46_Decimal.j0 k (((1000000 : Int) % a0_1) != 0) a0_0 a0_1)) else (assessorref46_Decimal.j0 k true a0_0 a0_1)) = some (r1, r2) := H
    have A4 := Aside0.mk A40
    clear A40
    by_cases c5 : t151 = true
    · subst c5
      have H1 : (if a0_1 = 0 then (none) else (assessorref46_Decimal.j0 k (((1000000 : Int) % a0_1) != 0) a0_0 a0_1)) = some (r1, r2) := by rw [if_pos rfl] at H; exact H
      clear H
      have H := H1
      clear H1
      by_cases c6 : a0_1 = 0
      · rw [if_pos c6] at H
        exact absurd H (by simp)
      · rw [if_neg c6] at H
        have c6b0 : (a0_1 == 0) = false := beq_eq_false_iff_ne.mpr c6
        have c6b1 : (a0_1 != 0) = true := bne_iff_ne.mpr c6
        (first | rw [c6b0] | (simp only [i64_w, i32_w]; rw [c6b0]) | skip)
        have H' := Aside0.mk H
        clear H
        have hcz7_0 : w3.cell? ⟨gb150, 0, none⟩ = some (.int .i64 a0_0) := (blk_cell BK150.out 0).trans rfl
        have hcz7_1 : w3.cell? ⟨gb150, 1, none⟩ = some (.int .i64 a0_1) := (blk_cell BK150.out 1).trans rfl
        have hfz7_0 := blk_frozen BK150.out 0
        have hfz7_1 := blk_frozen BK150.out 1
        go_wp2_with (first | ((with_reducible refine gate_callee (f := 16) rfl ?_); refine goesL_ (some 9) rfl rfl Tryd.func16 (by kernel_rfl) rfl #[.agg #[.int .i64 a0_0, .int .i64 a0_1]] rfl (by (try simp only [List.map_toArray, List.map_cons, List.map_nil]); first | done | rfl | (simp only [List.length_drop, List.length_take]; rfl)) ?_; (with_reducible refine (assessorref46_Valid.calls k a0_0 a0_1 true _ A4.out).mono ?_); rintro e w8 ⟨rfl, hb⟩; refine ⟨_, rfl, ?_⟩; have n0_ := Aside0.mk (blk_below (g := gb150) (o := .cells #[.int .i64 a0_0, .int .i64 a0_1] 23 (0, 0)) (by (with_reducible repeat (first | refine blk_drewN ?_ _ | refine blk_drew ?_ | refine blk_alloc ?_ _)); exact BK150.out) hb); have n1_ := Aside0.mk (below_step (by repeat (first | (with_reducible first | exact HB.out | apply below_alloc | apply pw_below_drewN | apply below_drew1 | refine below_set ?_ GE150.out) | exact HB.out)) hb); clear BK150; clear HB; have BK150 := n0_; have HB := n1_; clear n0_ n1_; (try clear hb); (try clear hb2); (try clear hk); (try clear hi); have hcz9_0 : w8.cell? ⟨gb150, 0, none⟩ = some (.int .i64 a0_0) := (blk_cell BK150.out 0).trans rfl; have hcz9_1 : w8.cell? ⟨gb150, 1, none⟩ = some (.int .i64 a0_1) := (blk_cell BK150.out 1).trans rfl; have hfz9_0 := blk_frozen BK150.out 0; have hfz9_1 := blk_frozen BK150.out 1))
        go_meet
        case rel => exact ⟨_, ((((1000000 : Int) % a0_1) != 0)), (by first | rfl | (simp; done) | (simp [*]; done)), H', ⟨by first | omega | exact Nat.le_refl _⟩, ⟨by (with_reducible repeat (first | refine blk_drewN ?_ _ | refine blk_drew ?_ | refine blk_alloc ?_ _)); exact BK150.out⟩, ⟨by repeat (first | (with_reducible first | exact HB.out | apply below_alloc | apply pw_below_drewN | apply below_drew1 | refine below_set ?_ GE150.out) | exact HB.out)⟩⟩
    · replace c5 := Bool.eq_false_iff.mpr c5
      subst c5
      have H1 : (assessorref46_Decimal.j0 k true a0_0 a0_1) = some (r1, r2) := by rw [if_neg (show ¬ (false = true) by decide)] at H; exact H
      clear H
      have H := H1
      clear H1
      have H' := Aside0.mk H
      clear H
      have hcz10_0 : w3.cell? ⟨gb150, 0, none⟩ = some (.int .i64 a0_0) := (blk_cell BK150.out 0).trans rfl
      have hcz10_1 : w3.cell? ⟨gb150, 1, none⟩ = some (.int .i64 a0_1) := (blk_cell BK150.out 1).trans rfl
      have hfz10_0 := blk_frozen BK150.out 0
      have hfz10_1 := blk_frozen BK150.out 1
      go_wp2_with (first | ((with_reducible refine gate_callee (f := 16) rfl ?_); refine goesL_ (some 9) rfl rfl Tryd.func16 (by kernel_rfl) rfl #[.agg #[.int .i64 a0_0, .int .i64 a0_1]] rfl (by (try simp only [List.map_toArray, List.map_cons, List.map_nil]); first | done | rfl | (simp only [List.length_drop, List.length_take]; rfl)) ?_; (with_reducible refine (assessorref46_Valid.calls k a0_0 a0_1 false _ A4.out).mono ?_); rintro e w11 ⟨rfl, hb⟩; refine ⟨_, rfl, ?_⟩; have n0_ := Aside0.mk (blk_below (g := gb150) (o := .cells #[.int .i64 a0_0, .int .i64 a0_1] 23 (0, 0)) (by (with_reducible repeat (first | refine blk_drewN ?_ _ | refine blk_drew ?_ | refine blk_alloc ?_ _)); exact BK150.out) hb); have n1_ := Aside0.mk (below_step (by repeat (first | (with_reducible first | exact HB.out | apply below_alloc | apply pw_below_drewN | apply below_drew1 | refine below_set ?_ GE150.out) | exact HB.out)) hb); clear BK150; clear HB; have BK150 := n0_; have HB := n1_; clear n0_ n1_; (try clear hb); (try clear hb2); (try clear hk); (try clear hi)))
      go_meet
      case rel => exact ⟨_, (true), (by first | rfl | (simp; done) | (simp [*]; done)), H', ⟨by first | omega | exact Nat.le_refl _⟩, ⟨by (with_reducible repeat (first | refine blk_drewN ?_ _ | refine blk_drew ?_ | refine blk_alloc ?_ _)); exact BK150.out⟩, ⟨by repeat (first | (with_reducible first | exact HB.out | apply below_alloc | apply pw_below_drewN | apply below_drew1 | refine below_set ?_ GE150.out) | exact HB.out)⟩⟩
  case rest =>
    clear HC2
    try clear c1
    try clear p2
    try clear c5
    try clear c6
    try clear c6b0
    try clear c6b1
    try clear hcz10_0
    try clear hcz10_1
    try clear hcz7_0
    try clear hcz7_1
    try clear hcz9_0
    try clear hcz9_1
    try clear hfz10_0
    try clear hfz10_1
    try clear hfz7_0
    try clear hfz7_1
    try clear hfz9_0
    try clear hfz9_1
    obtain ⟨kq, x16_1, rfl, HA, HJ1, BK150, HB⟩ := hcut
    cases kq with
    | zero => exact absurd HA.out (by simp [assessorref46_Decimal.j0])
    | succ kj1 =>
      have H := HA.out
      clear HA
      simp only [assessorref46_Decimal.j0] at H
      by_cases c12 : x16_1 = true
      · subst c12
        have H1 : (some ((⟨#[]⟩ : ByteArray), false)) = some (r1, r2) := by rw [if_pos rfl] at H; exact H
        clear H
        have H := H1
        clear H1
        simp only [Option.some.injEq, Prod.mk.injEq] at H
        obtain ⟨rfl, rfl⟩ := H
        go_wp2
        go_ret2
        exact ⟨by first | rfl | (simp [errW_none, errW_some] <;> rfl) | (simp [*, errW_none, errW_some] <;> rfl), by repeat (first | (with_reducible first | exact HB.out | apply below_alloc | apply pw_below_drewN | apply below_drew1 | refine below_set ?_ GE150.out) | exact HB.out)⟩
      · replace c12 := Bool.eq_false_iff.mpr c12
        subst c12
        have H1 : ((assessorref46_signed.f a0_0).bind fun bt152 => (if a0_1 = 0 then (none) else ((assessorref46_Number.f kj1 (wrap64 (Int.tdiv bt152.2 a0_1))).bind fun t154 => (if bt152.1.size + t154.size ≤ 9223372036854775807 then (if (Int.tmod bt152.2 a0_1) > 0 then (if (bt152.1 ++ t154).size + 1 ≤ 9223372036854775807 then (assessorref46_Decimal.j1 kj1 ((bt152.1 ++ t154) ++ (⟨#[46]⟩ : ByteArray)) (Int.tmod bt152.2 a0_1) a0_0 a0_1) else (none)) else (assessorref46_Decimal.j1 kj1 (bt152.1 ++ t154) (Int.tmod bt152.2 a0_1) a0_0 a0_1)) else (none))))) = some (r1, r2) := by rw [if_neg (show ¬ (false = true) by decide)] at H; exact H
        clear H
        have H := H1
        clear H1
        replace H := Option.bind_eq_some_iff.mp H
        obtain ⟨⟨t152, t153⟩, A130, H⟩ := H
        replace H : (if a0_1 = 0 then (none) else ((assessorref46_Number.f kj1 (wrap64 (Int.tdiv t153 a0_1))).bind fun t154 => (if t152.size + t154.size ≤ 9223372036854775807 then (if (Int.tmod t153 a0_1) > 0 then (if (t152 ++ t154).size + 1 ≤ 9223372036854775807 then (assessorref46_Decimal.j1 kj1 ((t152 ++ t154) ++ (⟨#[46]⟩ : ByteArray)) (Int.tmod t153 a0_1) a0_0 a0_1) else (none)) else (assessorref46_Decimal.j1 kj1 (t152 ++ t154) (Int.tmod t153 a0_1) a0_0 a0_1)) else (none)))) = some (r1, r2) := H
        have A13 := Aside0.mk A130
        clear A130
        by_cases c14 : a0_1 = 0
        · rw [if_pos c14] at H
          exact absurd H (by simp)
        · rw [if_neg c14] at H
          have c14b0 : (a0_1 == 0) = false := beq_eq_false_iff_ne.mpr c14
          have c14b1 : (a0_1 != 0) = true := bne_iff_ne.mpr c14
          replace H := Option.bind_eq_some_iff.mp H
          obtain ⟨t154, A150, H⟩ := H
          replace H : (if t152.size + t154.size ≤ 9223372036854775807 then (if (Int.tmod t153 a0_1) > 0 then (if (t152 ++ t154).size + 1 ≤ 9223372036854775807 then (assessorref46_Decimal.j1 kj1 ((t152 ++ t154) ++ (⟨#[46]⟩ : ByteArray)) (Int.tmod t153 a0_1) a0_0 a0_1) else (none)) else (assessorref46_Decimal.j1 kj1 (t152 ++ t154) (Int.tmod t153 a0_1) a0_0 a0_1)) else (none)) = some (r1, r2) := H
          have A15 := Aside0.mk A150
          clear A150
          by_cases c16 : t152.size + t154.size ≤ 9223372036854775807
          · rw [if_pos c16] at H
            have c16b0 := eq_true c16
            have c16b1 : decide (t152.size + t154.size ≤ 9223372036854775807) = true := decide_eq_true c16
            try have c16b2 : (9223372036854775807 < t152.size + t154.size) = False := eq_false (Nat.not_lt.2 c16)
            have HC17 := Aside0.mk H
            clear H
            have hcz18_0 : wc.cell? ⟨gb150, 0, none⟩ = some (.int .i64 a0_0) := (blk_cell BK150.out 0).trans rfl
            have hcz18_1 : wc.cell? ⟨gb150, 1, none⟩ = some (.int .i64 a0_1) := (blk_cell BK150.out 1).trans rfl
            have hfz18_0 := blk_frozen BK150.out 0
            have hfz18_1 := blk_frozen BK150.out 1
            try go_wp2_with (first | ((with_reducible refine gate_callee (f := 46) rfl ?_); refine goesL_ (some 20) rfl rfl Tryd.func46 (by kernel_rfl) rfl #[.int .i64 a0_0] rfl (by (try simp only [List.map_toArray, List.map_cons, List.map_nil]); first | done | rfl | (simp only [List.length_drop, List.length_take]; rfl)) ?_; (with_reducible refine (assessorref46_signed.calls a0_0 t152 t153 _ A13.out).mono ?_); rintro e w' ⟨rfl, ⟨nd, rfl⟩⟩; refine ⟨_, rfl, ?_⟩))
            (try (rw [drewN_self wc]; generalize hq_ : World.drewN wc _ = wc; have n0_ : Aside0 (wc.heap[gb150]? = some (.cells #[.int .i64 a0_0, .int .i64 a0_1] 23 (0, 0))) := ⟨by rw [← hq_]; exact (by (with_reducible repeat (first | refine blk_drewN ?_ _ | refine blk_drew ?_ | refine blk_alloc ?_ _)); exact BK150.out)⟩; have n1_ : Aside0 (Below w.heap.size w wc) := ⟨by rw [← hq_]; exact (by repeat (first | (with_reducible first | exact HB.out | apply below_alloc | apply pw_below_drewN | apply below_drew1 | refine below_set ?_ GE150.out) | exact HB.out))⟩; clear BK150 HB hq_; have BK150 := n0_; have HB := n1_; clear n0_ n1_))
            have n0_ := Aside0.mk (blk_drew BK150.out)
            have n1_ := Aside0.mk (below_drew1 HB.out)
            clear BK150
            clear HB
            have BK150 := n0_
            have HB := n1_
            clear n0_ n1_
            refine start_ (n := 13) (S := fun w' => w'.cell? ⟨gb150, 0, none⟩ = some (.int .i64 a0_0) ∧ w'.cell? ⟨gb150, 1, none⟩ = some (.int .i64 a0_1)) (ds := []) #[false, false, false, false, false, false, false, false, false, false, false, false, false] (by kernel_rfl) rfl rfl ⟨(blk_cell BK150.out 0).trans rfl, (blk_cell BK150.out 1).trans rfl⟩ (fun hHeld => ?_); refine with_tabW assessorref46_Decimal.tab4 assessorref46_Decimal.bits4 (fun HT_ HW_ => ?_)
            generalize wc.drew = w19 at BK150 HB hHeld ⊢
            refine pure_ (i := 0) (N := some 23) (v := ?_) (a' := ?_) #[true, false, false, false, false, false, false, false, false, false, false, false, false] rfl rfl (any_of HT_.out (by kernel_rfl)) (fun _ _ _ h => h) (Or.inl ⟨by rfl, ?_⟩) ?_ ?_
            rotate_left
            · intro w'
              go_simp
              with_reducible rfl
            rotate_left
            · simp only [Act.put, List.setIfInBounds_toArray, List.set_cons_zero, List.set_cons_succ, i64_w, i32_w]
              rfl
            refine pure_ (i := 1) (N := some 24) (v := ?_) (a' := ?_) #[true, true, false, false, false, false, false, false, false, false, false, false, false] rfl rfl (any_of HT_.out (by kernel_rfl)) (fun _ _ _ h => h) (Or.inl ⟨by rfl, ?_⟩) ?_ ?_
            rotate_left
            · intro w'
              go_simp
              with_reducible rfl
            rotate_left
            · simp only [Act.put, List.setIfInBounds_toArray, List.set_cons_zero, List.set_cons_succ, i64_w, i32_w]
              rfl
            refine pure_ (i := 2) (N := some 25) (v := ?_) (a' := ?_) #[true, true, true, false, false, false, false, false, false, false, false, false, false] rfl rfl (any_of HT_.out (by kernel_rfl)) (fun _ _ _ h => h) (Or.inl ⟨by rfl, ?_⟩) ?_ ?_
            rotate_left
            · intro w'
              go_simp
              with_reducible rfl
            rotate_left
            · simp only [Act.put, List.setIfInBounds_toArray, List.set_cons_zero, List.set_cons_succ, i64_w, i32_w]
              rfl
            refine pure_ (i := 7) (N := some 30) (v := ?_) (a' := ?_) #[true, true, true, false, false, false, false, true, false, false, false, false, false] rfl rfl (any_of HT_.out (by kernel_rfl)) (fun _ _ _ h => h) (Or.inl ⟨by rfl, ?_⟩) ?_ ?_
            rotate_left
            · intro w'
              go_simp
              with_reducible rfl
            rotate_left
            · simp only [Act.put, List.setIfInBounds_toArray, List.set_cons_zero, List.set_cons_succ, i64_w, i32_w]
              rfl
            refine pure_ (i := 8) (N := some 31) (v := ?_) (a' := ?_) #[true, true, true, false, false, false, false, true, true, false, false, false, false] rfl rfl (any_of HT_.out (by kernel_rfl)) (fun _ _ _ h => h) (Or.inl ⟨by rfl, ?_⟩) ?_ ?_
            rotate_left
            · intro w'
              go_simp
              with_reducible rfl
            rotate_left
            · simp only [Act.put, List.setIfInBounds_toArray, List.set_cons_zero, List.set_cons_succ, i64_w, i32_w]
              rfl
            refine take_ (i := 3) (N := some 26) (v := ?_) (a' := ?_) #[true, true, true, true, false, false, false, true, true, false, false, false, false] rfl rfl (take_ofW HT_.out HW_.out (by kernel_rfl)) (fun _ _ _ h => h) (Or.inl ⟨by rfl, ?_⟩) hHeld ?_ ?_
            rotate_left
            · rintro w' ⟨s0, s1⟩
              go_simp
              with_reducible rfl
            rotate_left
            · simp only [Act.put, List.setIfInBounds_toArray, List.set_cons_zero, List.set_cons_succ, i64_w, i32_w]
              rfl
            refine pure_ (i := 4) (N := some 27) (v := ?_) (a' := ?_) #[true, true, true, true, true, false, false, true, true, false, false, false, false] rfl rfl (any_of HT_.out (by kernel_rfl)) (fun _ _ _ h => h) (Or.inl ⟨by rfl, ?_⟩) ?_ ?_
            rotate_left
            · intro w'
              go_simp
              with_reducible rfl
            rotate_left
            · simp only [Act.put, List.setIfInBounds_toArray, List.set_cons_zero, List.set_cons_succ, i64_w, i32_w]
              rfl
            refine take_ (i := 9) (N := some 32) (v := ?_) (a' := ?_) #[true, true, true, true, true, false, false, true, true, true, false, false, false] rfl rfl (take_ofW HT_.out HW_.out (by kernel_rfl)) (fun _ _ _ h => h) (Or.inl ⟨by rfl, ?_⟩) hHeld ?_ ?_
            rotate_left
            · rintro w' ⟨s0, s1⟩
              go_simp
              with_reducible rfl
            rotate_left
            · simp only [Act.put, List.setIfInBounds_toArray, List.set_cons_zero, List.set_cons_succ, i64_w, i32_w]
              rfl
            refine pure_ (i := 10) (N := some 33) (v := ?_) (a' := ?_) #[true, true, true, true, true, false, false, true, true, true, true, false, false] rfl rfl (any_of HT_.out (by kernel_rfl)) (fun _ _ _ h => h) (Or.inl ⟨by rfl, ?_⟩) ?_ ?_
            rotate_left
            · intro w'
              go_simp
              with_reducible rfl
            rotate_left
            · simp only [Act.put, List.setIfInBounds_toArray, List.set_cons_zero, List.set_cons_succ, i64_w, i32_w]
              rfl
            refine one_ (i := 5) (N := some 28) #[true, true, true, true, true, true, false, true, true, true, true, false, false] rfl rfl (one_of HT_.out (by kernel_rfl)) (by decide) (fun K hK => ?_)
            refine goes_ Tryd.func47 (by kernel_rfl) rfl #[.int .i64 (wrap64 (Int.tdiv t153 a0_1))] (by rfl) rfl rfl (by (try simp only [List.map_toArray, List.map_cons, List.map_nil]); first | done | rfl | (simp only [List.length_drop, List.length_take]; rfl)) ?_
            with_reducible refine (assessorref46_Number.calls kj1 (wrap64 (Int.tdiv t153 a0_1)) t154 _ A15.out).mono ?_
            rintro e w20 ⟨rfl, hb⟩
            refine ⟨_, rfl, ?_⟩
            have n0_ := Aside0.mk (blk_below (g := gb150) (o := .cells #[.int .i64 a0_0, .int .i64 a0_1] 23 (0, 0)) (by (with_reducible repeat (first | refine blk_drewN ?_ _ | refine blk_drew ?_ | refine blk_alloc ?_ _)); exact BK150.out) hb)
            have n1_ := Aside0.mk (below_step (by repeat (first | (with_reducible first | exact HB.out | apply below_alloc | apply pw_below_drewN | apply below_drew1 | refine below_set ?_ GE150.out) | exact HB.out)) hb)
            clear BK150
            clear HB
            have BK150 := n0_
            have HB := n1_
            clear n0_ n1_
            (try clear hb)
            (try clear hb2)
            (try clear hk)
            (try clear hi)
            refine hK.out _ _ ⟨(blk_cell BK150.out 0).trans rfl, (blk_cell BK150.out 1).trans rfl⟩ (fun hHeld => ?_)
            clear hK K
            refine norm_ (a' := ?_) ?_ ?_
            rotate_left
            · show Act.put _ (some 28) _ = _
              simp only [Act.put, List.setIfInBounds_toArray, List.set_cons_zero, List.set_cons_succ, i64_w, i32_w]
              rfl
            refine pure_ (i := 6) (N := some 29) (v := ?_) (a' := ?_) #[true, true, true, true, true, true, true, true, true, true, true, false, false] rfl rfl (any_of HT_.out (by kernel_rfl)) (fun _ _ _ h => h) (Or.inl ⟨by rfl, ?_⟩) ?_ ?_
            rotate_left
            · intro w'
              go_simp
              with_reducible rfl
            rotate_left
            · simp only [Act.put, List.setIfInBounds_toArray, List.set_cons_zero, List.set_cons_succ, i64_w, i32_w]
              rfl
            refine pure_ (i := 11) (N := some 6) (v := ?_) (a' := ?_) #[true, true, true, true, true, true, true, true, true, true, true, true, false] rfl rfl (any_of HT_.out (by kernel_rfl)) (fun _ _ _ h => h) (Or.inl ⟨by rfl, ?_⟩) ?_ ?_
            rotate_left
            · intro w'
              go_simp
              with_reducible rfl
            rotate_left
            · simp only [Act.put, List.setIfInBounds_toArray, List.set_cons_zero, List.set_cons_succ, i64_w, i32_w]
              rfl
            refine pure_ (i := 12) (N := some 7) (v := ?_) (a' := ?_) #[true, true, true, true, true, true, true, true, true, true, true, true, true] rfl rfl (any_of HT_.out (by kernel_rfl)) (fun _ _ _ h => h) (Or.inl ⟨by rfl, ?_⟩) ?_ ?_
            rotate_left
            · intro w'
              go_simp
              with_reducible rfl
            rotate_left
            · simp only [Act.put, List.setIfInBounds_toArray, List.set_cons_zero, List.set_cons_succ, i64_w, i32_w]
              rfl
            refine done_ (done_of HT_.out (by kernel_rfl)) ?_
            go_upto_if 35 with (fail)
            go_cut [6] (fun v6 wc => ∃ (kq : Nat) (x6_16 : ByteArray), v6 = .string x6_16 ∧ Aside0 (assessorref46_Decimal.j1 kq x6_16 (Int.tmod t153 a0_1) a0_0 a0_1 = some (r1, r2)) ∧ Aside0 (kq ≤ kj1) ∧ Aside0 (wc.heap[gb150]? = some (.cells #[.int .i64 a0_0, .int .i64 a0_1] 23 (0, 0))) ∧ Aside0 (Below w.heap.size w wc))
            case first =>
              have H := HC17.out
              clear HC17
              by_cases c21 : (Int.tmod t153 a0_1) > 0
              · rw [if_pos c21] at H
                have c21b0 : decide (0 < (Int.tmod t153 a0_1)) = true := decide_eq_true c21
                clear c21
                (first | rw [c21b0] | (simp only [i64_w, i32_w]; rw [c21b0]) | skip)
                by_cases c22 : (t152 ++ t154).size + 1 ≤ 9223372036854775807
                · rw [if_pos c22] at H
                  have c22b0 := eq_true c22
                  have c22b1 : decide ((t152 ++ t154).size + 1 ≤ 9223372036854775807) = true := decide_eq_true c22
                  have c22b4 : t152.size + t154.size + 1 ≤ 9223372036854775807 := by have z_ := c22; (try simp only [ByteArray.size_append] at z_); exact z_
                  have c22b5 : (9223372036854775807 < t152.size + t154.size + 1) = False := eq_false (Nat.not_lt.2 c22b4)
                  try have c22b2 : (9223372036854775807 < (t152 ++ t154).size + 1) = False := eq_false (Nat.not_lt.2 c22)
                  have H' := Aside0.mk H
                  clear H
                  go_wp2
                  go_meet
                  case rel => exact ⟨_, ((t152 ++ t154) ++ (⟨#[46]⟩ : ByteArray)), (by first | rfl | (simp; done) | (simp [*]; done)), H', ⟨by have := HJ1.out; first | omega | exact Nat.le_refl _⟩, ⟨by (with_reducible repeat (first | refine blk_drewN ?_ _ | refine blk_drew ?_ | refine blk_alloc ?_ _)); exact BK150.out⟩, ⟨by repeat (first | (with_reducible first | exact HB.out | apply below_alloc | apply pw_below_drewN | apply below_drew1 | refine below_set ?_ GE150.out) | exact HB.out)⟩⟩
                · rw [if_neg c22] at H
                  exact absurd H (by simp)
              · rw [if_neg c21] at H
                have c21b0 : decide (0 < (Int.tmod t153 a0_1)) = false := decide_eq_false c21
                clear c21
                (first | rw [c21b0] | (simp only [i64_w, i32_w]; rw [c21b0]) | skip)
                have H' := Aside0.mk H
                clear H
                go_wp2
                go_meet
                case rel => exact ⟨_, (t152 ++ t154), (by first | rfl | (simp; done) | (simp [*]; done)), H', ⟨by have := HJ1.out; first | omega | exact Nat.le_refl _⟩, ⟨by (with_reducible repeat (first | refine blk_drewN ?_ _ | refine blk_drew ?_ | refine blk_alloc ?_ _)); exact BK150.out⟩, ⟨by repeat (first | (with_reducible first | exact HB.out | apply below_alloc | apply pw_below_drewN | apply below_drew1 | refine below_set ?_ GE150.out) | exact HB.out)⟩⟩
            case rest =>
              clear HC17
              try clear c1
              try clear c2
              try clear p2
              try clear c4
              try clear c5
              try clear c6
              try clear c6b0
              try clear c6b1
              try clear p6
              try clear c12
              try clear c14
              try clear c14b0
              try clear c14b1
              try clear c16
              try clear c16b0
              try clear c16b1
              try clear c16b2
              try clear c21
              try clear c21b0
              try clear c22
              try clear c22b0
              try clear c22b1
              try clear c22b2
              try clear hcz10_0
              try clear hcz10_1
              try clear hcz18_0
              try clear hcz18_1
              try clear hcz7_0
              try clear hcz7_1
              try clear hcz9_0
              try clear hcz9_1
              try clear hfz10_0
              try clear hfz10_1
              try clear hfz18_0
              try clear hfz18_1
              try clear hfz7_0
              try clear hfz7_1
              try clear hfz9_0
              try clear hfz9_1
              try clear p2
              obtain ⟨kq, x6_16, rfl, HA, HJ16, BK150, HB⟩ := hcut
              cases kq with
              | zero => exact absurd HA.out (by simp [assessorref46_Decimal.j1])
              | succ kj16 =>
                have H := HA.out
                clear HA
                simp only [assessorref46_Decimal.j1] at H
                have H' := Aside0.mk H
                clear H
                go_wp2
                go_loopg [6, 7] kj16 (fun kq v6 v7 w' => ∃ (x6_3 : ByteArray) (x7_3 : Int), v6 = .string x6_3 ∧ v7 = .int .i64 x7_3 ∧ Aside0 (assessorref46_Decimal.l0 kq x6_3 x7_3 a0_0 a0_1 = some (r1, r2)) ∧ Aside0 (kq ≤ kj16) ∧ Aside0 (w'.heap[gb150]? = some (.cells #[.int .i64 a0_0, .int .i64 a0_1] 23 (0, 0))) ∧ Aside0 (Below w.heap.size w w'))
                case atStart => exact ⟨(x6_16), ((Int.tmod t153 a0_1)), (by first | rfl | (simp; done) | (simp [*]; done)), (by first | rfl | (simp; done) | (simp [*]; done)), H', ⟨Nat.le_refl _⟩, ⟨by (with_reducible repeat (first | refine blk_drewN ?_ _ | refine blk_drew ?_ | refine blk_alloc ?_ _)); exact BK150.out⟩, ⟨by repeat (first | (with_reducible first | exact HB.out | apply below_alloc | apply pw_below_drewN | apply below_drew1 | refine below_set ?_ GE150.out) | exact HB.out)⟩⟩
                case round =>
                  clear H'
                  try clear c1
                  try clear c2
                  try clear p2
                  try clear c4
                  try clear c5
                  try clear c6
                  try clear c6b0
                  try clear c6b1
                  try clear p6
                  try clear c12
                  try clear c14
                  try clear c14b0
                  try clear c14b1
                  try clear c16
                  try clear c16b0
                  try clear c16b1
                  try clear c16b2
                  try clear c21
                  try clear c21b0
                  try clear c22
                  try clear c22b0
                  try clear c22b1
                  try clear c22b2
                  try clear hcz10_0
                  try clear hcz10_1
                  try clear hcz18_0
                  try clear hcz18_1
                  try clear hcz7_0
                  try clear hcz7_1
                  try clear hcz9_0
                  try clear hcz9_1
                  try clear hfz10_0
                  try clear hfz10_1
                  try clear hfz18_0
                  try clear hfz18_1
                  try clear hfz7_0
                  try clear hfz7_1
                  try clear hfz9_0
                  try clear hfz9_1
                  try clear p2
                  try clear p6
                  obtain ⟨x6_3, x7_3, rfl, rfl, HA, HK3, BK150, HB⟩ := hrel
                  cases gk with
                  | zero => exact absurd HA.out (by simp [assessorref46_Decimal.l0])
                  | succ k3 =>
                    have H := HA.out
                    clear HA
                    simp only [assessorref46_Decimal.l0] at H
                    by_cases c23 : x7_3 > 0
                    · rw [if_pos c23] at H
                      have c23b0 : decide (0 < x7_3) = true := decide_eq_true c23
                      clear c23
                      by_cases c24 : a0_1 = 0
                      · rw [if_pos c24] at H
                        exact absurd H (by simp)
                      · rw [if_neg c24] at H
                        have c24b0 : (a0_1 == 0) = false := beq_eq_false_iff_ne.mpr c24
                        have c24b1 : (a0_1 != 0) = true := bne_iff_ne.mpr c24
                        replace H := Option.bind_eq_some_iff.mp H
                        obtain ⟨t155, A250, H⟩ := H
                        replace H : (if x6_3.size + t155.size ≤ 9223372036854775807 then (assessorref46_Decimal.l0 k3 (x6_3 ++ t155) (Int.tmod (wrap64 (10 * x7_3)) a0_1) a0_0 a0_1) else (none)) = some (r1, r2) := H
                        have A25 := Aside0.mk A250
                        clear A250
                        by_cases c26 : x6_3.size + t155.size ≤ 9223372036854775807
                        · rw [if_pos c26] at H
                          have c26b0 := eq_true c26
                          have c26b1 : decide (x6_3.size + t155.size ≤ 9223372036854775807) = true := decide_eq_true c26
                          try have c26b2 : (9223372036854775807 < x6_3.size + t155.size) = False := eq_false (Nat.not_lt.2 c26)
                          have H' := Aside0.mk H
                          clear H
                          have hcz27_0 : wr.cell? ⟨gb150, 0, none⟩ = some (.int .i64 a0_0) := (blk_cell BK150.out 0).trans rfl
                          have hcz27_1 : wr.cell? ⟨gb150, 1, none⟩ = some (.int .i64 a0_1) := (blk_cell BK150.out 1).trans rfl
                          have hfz27_0 := blk_frozen BK150.out 0
                          have hfz27_1 := blk_frozen BK150.out 1
                          go_wp2_with (first | ((with_reducible refine gate_callee (f := 47) rfl ?_); refine goesL_ (some 47) rfl rfl Tryd.func47 (by kernel_rfl) rfl #[.int .i64 (wrap64 (Int.tdiv (wrap64 (10 * x7_3)) a0_1))] rfl (by (try simp only [List.map_toArray, List.map_cons, List.map_nil]); first | done | rfl | (simp only [List.length_drop, List.length_take]; rfl)) ?_; (with_reducible refine (assessorref46_Number.calls k3 (wrap64 (Int.tdiv (wrap64 (10 * x7_3)) a0_1)) t155 _ A25.out).mono ?_); rintro e w28 ⟨rfl, hb⟩; refine ⟨_, rfl, ?_⟩; have n0_ := Aside0.mk (blk_below (g := gb150) (o := .cells #[.int .i64 a0_0, .int .i64 a0_1] 23 (0, 0)) (by (with_reducible repeat (first | refine blk_drewN ?_ _ | refine blk_drew ?_ | refine blk_alloc ?_ _)); exact BK150.out) hb); have n1_ := Aside0.mk (below_step (by repeat (first | (with_reducible first | exact HB.out | apply below_alloc | apply pw_below_drewN | apply below_drew1 | refine below_set ?_ GE150.out) | exact HB.out)) hb); clear BK150; clear HB; have BK150 := n0_; have HB := n1_; clear n0_ n1_; (try clear hb); (try clear hb2); (try clear hk); (try clear hi); have hcz29_0 : w28.cell? ⟨gb150, 0, none⟩ = some (.int .i64 a0_0) := (blk_cell BK150.out 0).trans rfl; have hcz29_1 : w28.cell? ⟨gb150, 1, none⟩ = some (.int .i64 a0_1) := (blk_cell BK150.out 1).trans rfl; have hfz29_0 := blk_frozen BK150.out 0; have hfz29_1 := blk_frozen BK150.out 1))
                          go_roundg k3
                          case measure => have := HJ1.out; have := HJ16.out; have := HK3.out; omega
                          case rel => exact ⟨(x6_3 ++ t155), (Int.tmod (wrap64 (10 * x7_3)) a0_1), (by first | rfl | (simp; done) | (simp [*]; done)), (by first | rfl | (simp; done) | (simp [*]; done)), H', ⟨by have := HJ1.out; have := HJ16.out; have := HK3.out; omega⟩, ⟨by (with_reducible repeat (first | refine blk_drewN ?_ _ | refine blk_drew ?_ | refine blk_alloc ?_ _)); exact BK150.out⟩, ⟨by repeat (first | (with_reducible first | exact HB.out | apply below_alloc | apply pw_below_drewN | apply below_drew1 | refine below_set ?_ GE150.out) | exact HB.out)⟩⟩
                        · rw [if_neg c26] at H
                          exact absurd H (by simp)
                    · rw [if_neg c23] at H
                      have c23b0 : decide (0 < x7_3) = false := decide_eq_false c23
                      clear c23
                      simp only [Option.some.injEq, Prod.mk.injEq] at H
                      obtain ⟨rfl, rfl⟩ := H
                      go_wp2
                      go_ret2
                      exact ⟨by first | rfl | (simp [errW_none, errW_some] <;> rfl) | (simp [*, errW_none, errW_some] <;> rfl), by repeat (first | (with_reducible first | exact HB.out | apply below_alloc | apply pw_below_drewN | apply below_drew1 | refine below_set ?_ GE150.out) | exact HB.out)⟩
          · rw [if_neg c16] at H
            exact absurd H (by simp)

end Go.Proofs.YtkfibjmjamdigaaDoor.Q
-- Written by wip/myprint.py (a program of this repo's own) out of the translation.
namespace Go.Proofs.YtkfibjmjamdigaaDoor.Q
open Go.RowKit Go.Proofs.YtkfibjmjamdigaaDoorW.PrintWords Go.Proofs.YtkfibjmjamdigaaDoorW.PrintLast Go.Proofs.YtkfibjmjamdigaaDoorW.PrintMore
attribute [local go_sem] max2_int min2_int max_two min_two max_three min_three max_four min_four   -- for this text's walks alone
set_option linter.unusedVariables false
set_option linter.unusedSimpArgs false

/-! ### assessorref46_Format: function 18 -/
def assessorref46_Format.f (k : Nat) (a0_0 : Int) (a0_1 : Int) : Option (ByteArray) := (assessorref46_Valid.f k a0_0 a0_1).bind fun t157 => (if t157 = true then ((assessorref46_signed.f a0_0).bind fun bt158 => (if a0_1 = 1 then ((assessorref46_Number.f k bt158.2).bind fun t160 => (if bt158.1.size + t160.size ≤ 9223372036854775807 then (some (bt158.1 ++ t160)) else (none))) else ((assessorref46_Number.f k bt158.2).bind fun t161 => (if bt158.1.size + t161.size ≤ 9223372036854775807 then (if (bt158.1 ++ t161).size + 1 ≤ 9223372036854775807 then ((assessorref46_Number.f k a0_1).bind fun t162 => (if ((bt158.1 ++ t161) ++ (⟨#[47]⟩ : ByteArray)).size + t162.size ≤ 9223372036854775807 then (some (((bt158.1 ++ t161) ++ (⟨#[47]⟩ : ByteArray)) ++ t162)) else (none))) else (none)) else (none))))) else (some (⟨#[]⟩ : ByteArray)))
theorem assessorref46_Format.mono : ∀ a0 a1 k, LeO (assessorref46_Format.f k a0 a1) (assessorref46_Format.f (k + 1) a0 a1) := by
  intro a0 a1 k
  unfold assessorref46_Format.f
  repeat' first
      | (with_reducible exact assessorref46_Number.mono _ _)
      | (with_reducible exact assessorref46_Valid.mono _ _ _)
      | (with_reducible exact LeO.refl _)
      | (with_reducible exact LeO.none _)
      | (with_reducible refine LeO.ite ?_ ?_)
      | (with_reducible refine LeO.bind ?_ (fun _ => ?_))
      | exact assessorref46_Number.mono _ _
      | exact assessorref46_Valid.mono _ _ _
      | exact LeO.none _
      | refine LeO.ite ?_ ?_
      | refine LeO.bind ?_ (fun _ => ?_)
def assessorref46_Format.T6 : Bool × List (List Nat × List Nat) := (true, [([], []), ([], []), ([1], [1]), ([0, 2], [0, 2]), ([3], [3]), ([], []), ([5], [5]), ([6, 2], [6]), ([4, 7], [4, 7]), ([8, 7, 0, 1, 2, 3, 4, 5, 6, 7, 8], [8])])
def assessorref46_Format.B6 : List Nat := [0, 0, 2, 7, 15, 0, 32, 102, 255, 511]
theorem assessorref46_Format.tab6 : rtab .any (opsOf Tryd.f18 6) = assessorref46_Format.T6 := by kernel_rfl
theorem assessorref46_Format.bits6 : waitsOk assessorref46_Format.T6.2 assessorref46_Format.B6 = true := by kernel_rfl
set_option maxHeartbeats 8000000 in
set_option maxRecDepth 100000 in
theorem assessorref46_Format.calls (k : Nat) (a0_0 : Int) (a0_1 : Int) (r : ByteArray) (w : World) (h : assessorref46_Format.f k a0_0 a0_1 = some r) :
    Calls Tryd.prog 18 #[.agg #[.int .i64 a0_0, .int .i64 a0_1]] w fun e w' => e = .returned (.string r) ∧ Below w.heap.size w w' := by
  have hu23 := Tryd.underlying23
  have HB := Aside0.mk (Below.refl w.heap.size w)
  have H : ((assessorref46_Valid.f k a0_0 a0_1).bind fun t157 => (if t157 = true then ((assessorref46_signed.f a0_0).bind fun bt158 => (if a0_1 = 1 then ((assessorref46_Number.f k bt158.2).bind fun t160 => (if bt158.1.size + t160.size ≤ 9223372036854775807 then (some (bt158.1 ++ t160)) else (none))) else ((assessorref46_Number.f k bt158.2).bind fun t161 => (if bt158.1.size + t161.size ≤ 9223372036854775807 then (if (bt158.1 ++ t161).size + 1 ≤ 9223372036854775807 then ((assessorref46_Number.f k a0_1).bind fun t162 => (if ((bt158.1 ++ t161) ++ (⟨#[47]⟩ : ByteArray)).size + t162.size ≤ 9223372036854775807 then (some (((bt158.1 ++ t161) ++ (⟨#[47]⟩ : ByteArray)) ++ t162)) else (none))) else (none)) else (none))))) else (some (⟨#[]⟩ : ByteArray)))) = some r := h
  clear h
  replace H := Option.bind_eq_some_iff.mp H
  obtain ⟨t157, A20, H⟩ := H
  replace H : (if t157 = true then ((assessorref46_signed.f a0_0).bind fun bt158 => (if a0_1 = 1 then ((assessorref46_Number.f k bt158.2).bind fun t160 => (if bt158.1.size + t160.size ≤ 9223372036854775807 then (some (bt158.1 ++ t160)) else (none))) else ((assessorref46_Number.f k bt158.2).bind fun t161 => (if bt158.1.size + t161.size ≤ 9223372036854775807 then (if (bt158.1 ++ t161).size + 1 ≤ 9223372036854775807 then ((assessorref46_Number.f k a0_1).bind fun t162 => (if ((bt158.1 ++ t161) ++ (⟨#[47]⟩ : ByteArray)).size + t162.size ≤ 9223372036854775807 then (some (((bt158.1 ++ t161) ++ (⟨#[47]⟩ : ByteArray)) ++ t162)) else (none))) else (none)) else (none))))) else (some (⟨#[]⟩ : ByteArray))) = some r := H
  have A2 := Aside0.mk A20
  clear A20
  by_cases c3 : t157 = true
  · subst c3
    have H1 : ((assessorref46_signed.f a0_0).bind fun bt158 => (if a0_1 = 1 then ((assessorref46_Number.f k bt158.2).bind fun t160 => (if bt158.1.size + t160.size ≤ 9223372036854775807 then (some (bt158.1 ++ t160)) else (none))) else ((assessorref46_Number.f k bt158.2).bind fun t161 => (if bt158.1.size + t161.size ≤ 9223372036854775807 then (if (bt158.1 ++ t161).size + 1 ≤ 9223372036854775807 then ((assessorref46_Number.f k a0_1).bind fun t162 => (if ((bt158.1 ++ t161) ++ (⟨#[47]⟩ : ByteArray)).size + t162.size ≤ 9223372036854775807 then (some (((bt158.1 ++ t161) ++ (⟨#[47]⟩ : ByteArray)) ++ t162)) else (none))) else (none)) else (none))))) = some r := by rw [if_pos rfl] at H; exact H
    clear H
    have H := H1
    clear H1
    replace H := Option.bind_eq_some_iff.mp H
    obtain ⟨⟨t158, t159⟩, A40, H⟩ := H
    replace H : (if a0_1 = 1 then ((assessorref46_Number.f k t159).bind fun t160 => (if t158.size + t160.size ≤ 9223372036854775807 then (some (t158 ++ t160)) else (none))) else ((assessorref46_Number.f k t159).bind fun t161 => (if t158.size + t161.size ≤ 9223372036854775807 then (if (t158 ++ t161).size + 1 ≤ 9223372036854775807 then ((assessorref46_Number.f k a0_1).bind fun t162 => (if ((t158 ++ t161) ++ (⟨#[47]⟩ : ByteArray)).size + t162.size ≤ 9223372036854775807 then (some (((t158 ++ t161) ++ (⟨#[47]⟩ : ByteArray)) ++ t162)) else (none))) else (none)) else (none)))) = some r := H
    have A4 := Aside0.mk A40
    clear A40
    by_cases c5 : a0_1 = 1
    · rw [if_pos c5] at H
      have c5b0 : (a0_1 == 1) = true := beq_iff_eq.mpr c5
      have c5b1 : (a0_1 != 1) = false := bne_eq_false_iff_eq.mpr c5
      clear c5
      replace H := Option.bind_eq_some_iff.mp H
      obtain ⟨t160, A60, H⟩ := H
      replace H : (if t158.size + t160.size ≤ 9223372036854775807 then (some (t158 ++ t160)) else (none)) = some r := H
      have A6 := Aside0.mk A60
      clear A60
      by_cases c7 : t158.size + t160.size ≤ 9223372036854775807
      · rw [if_pos c7] at H
        have c7b0 := eq_true c7
        have c7b1 : decide (t158.size + t160.size ≤ 9223372036854775807) = true := decide_eq_true c7
        try have c7b2 : (9223372036854775807 < t158.size + t160.size) = False := eq_false (Nat.not_lt.2 c7)
        obtain rfl := Option.some.inj H
        simp only [Option.some.injEq, Prod.mk.injEq] at H
        obtain ⟨rfl⟩ := H
        go_enter Tryd.func18, Tryd.ntmps18
        go_wp2_with (first | ((with_reducible refine gate_dst (N := 1) rfl ?_); refine box_event ?hg (N := 1) ?hd (cs := #[.int .i64 a0_0, .int .i64 a0_1]) (t := 23) ?hr ?_; (case hd => rfl); (case hg => rfl); (case hr => first | (go_simp; done) | (go_simp; rfl)); intro gb156 hg w8 hbox hb; have n0_ := Aside0.mk (below_step (by repeat (first | (with_reducible first | exact HB.out | apply below_alloc | apply pw_below_drewN | apply below_drew1) | exact HB.out)) hb); have n1_ := Aside0.mk (hbox); have n2_ := Aside0.mk ((by rw [hg]; exact (below_size (by repeat (first | (with_reducible first | exact HB.out | apply below_alloc | apply pw_below_drewN | apply below_drew1) | exact HB.out))) : w.heap.size ≤ gb156)); have n3_ := Aside0.mk ((by rw [hg]; exact (below_size (by repeat (first | (with_reducible first | exact HB.out | apply below_alloc | apply pw_below_drewN | apply below_drew1) | exact HB.out))) : w.heap.size ≤ gb156)); clear HB; have HB := n0_; have BK156 := n1_; have GW156 := n2_; have GE156 := n3_; clear n0_ n1_ n2_ n3_; clear hb hbox hg; have hcz9_0 : w8.cell? ⟨gb156, 0, none⟩ = some (.int .i64 a0_0) := (blk_cell BK156.out 0).trans rfl; have hcz9_1 : w8.cell? ⟨gb156, 1, none⟩ = some (.int .i64 a0_1) := (blk_cell BK156.out 1).trans rfl; have hfz9_0 := blk_frozen BK156.out 0; have hfz9_1 := blk_frozen BK156.out 1) | ((with_reducible refine gate_callee (f := 16) rfl ?_); refine goesL_ (some 6) rfl rfl Tryd.func16 (by kernel_rfl) rfl #[.agg #[.int .i64 a0_0, .int .i64 a0_1]] rfl (by (try simp only [List.map_toArray, List.map_cons, List.map_nil]); first | done | rfl | (simp only [List.length_drop, List.length_take]; rfl)) ?_; (with_reducible refine (assessorref46_Valid.calls k a0_0 a0_1 true _ A2.out).mono ?_); rintro e w10 ⟨rfl, hb⟩; refine ⟨_, rfl, ?_⟩; have n0_ := Aside0.mk (blk_below (g := gb156) (o := .cells #[.int .i64 a0_0, .int .i64 a0_1] 23 (0, 0)) (by (with_reducible repeat (first | refine blk_drewN ?_ _ | refine blk_drew ?_ | refine blk_alloc ?_ _)); exact BK156.out) hb); have n1_ := Aside0.mk (below_step (by repeat (first | (with_reducible first | exact HB.out | apply below_alloc | apply pw_below_drewN | apply below_drew1 | refine below_set ?_ GE156.out) | exact HB.out)) hb); clear BK156; clear HB; have BK156 := n0_; have HB := n1_; clear n0_ n1_; (try clear hb); (try clear hb2); (try clear hk); (try clear hi); have hcz11_0 : w10.cell? ⟨gb156, 0, none⟩ = some (.int .i64 a0_0) := (blk_cell BK156.out 0).trans rfl; have hcz11_1 : w10.cell? ⟨gb156, 1, none⟩ = some (.int .i64 a0_1) := (blk_cell BK156.out 1).trans rfl; have hfz11_0 := blk_frozen BK156.out 0; have hfz11_1 := blk_frozen BK156.out 1) | ((with_reducible refine gate_callee (f := 46) rfl ?_); refine goesL_ (some 11) rfl rfl Tryd.func46 (by kernel_rfl) rfl #[.int .i64 a0_0] rfl (by (try simp only [List.map_toArray, List.map_cons, List.map_nil]); first | done | rfl | (simp only [List.length_drop, List.length_take]; rfl)) ?_; (with_reducible refine (assessorref46_signed.calls a0_0 t158 t159 _ A4.out).mono ?_); rintro e w' ⟨rfl, ⟨nd, rfl⟩⟩; refine ⟨_, rfl, ?_⟩) | ((with_reducible refine gate_callee (f := 47) rfl ?_); refine goesL_ (some 19) rfl rfl Tryd.func47 (by kernel_rfl) rfl #[.int .i64 t159] rfl (by (try simp only [List.map_toArray, List.map_cons, List.map_nil]); first | done | rfl | (simp only [List.length_drop, List.length_take]; rfl)) ?_; (with_reducible refine (assessorref46_Number.calls k t159 t160 _ A6.out).mono ?_); rintro e w12 ⟨rfl, hb⟩; refine ⟨_, rfl, ?_⟩; have n0_ := Aside0.mk (blk_below (g := gb156) (o := .cells #[.int .i64 a0_0, .int .i64 a0_1] 23 (0, 0)) (by (with_reducible repeat (first | refine blk_drewN ?_ _ | refine blk_drew ?_ | refine blk_alloc ?_ _)); exact BK156.out) hb); have n1_ := Aside0.mk (below_step (by repeat (first | (with_reducible first | exact HB.out | apply below_alloc | apply pw_below_drewN | apply below_drew1 | refine below_set ?_ GE156.out) | exact HB.out)) hb); clear BK156; clear HB; have BK156 := n0_; have HB := n1_; clear n0_ n1_; (try clear hb); (try clear hb2); (try clear hk); (try clear hi)))
        go_ret
        exact ⟨by first | rfl | (simp [errW_none, errW_some] <;> rfl) | (simp [*, errW_none, errW_some] <;> rfl), by repeat (first | (with_reducible first | exact HB.out | apply below_alloc | apply pw_below_drewN | apply below_drew1 | refine below_set ?_ GE156.out) | exact HB.out)⟩
      · rw [if_neg c7] at H
        exact absurd H (by simp)
    · rw [if_neg c5] at H
      have c5b0 : (a0_1 == 1) = false := beq_eq_false_iff_ne.mpr c5
      have c5b1 : (a0_1 != 1) = true := bne_iff_ne.mpr c5
      replace H := Option.bind_eq_some_iff.mp H
      obtain ⟨t161, A130, H⟩ := H
      replace H : (if t158.size + t161.size ≤ 9223372036854775807 then (if (t158 ++ t161).size + 1 ≤ 9223372036854775807 then ((assessorref46_Number.f k a0_1).bind fun t162 => (if ((t158 ++ t161) ++ (⟨#[47]⟩ : ByteArray)).size + t162.size ≤ 9223372036854775807 then (some (((t158 ++ t161) ++ (⟨#[47]⟩ : ByteArray)) ++ t162)) else (none))) else (none)) else (none)) = some r := H
      have A13 := Aside0.mk A130
      clear A130
      by_cases c14 : t158.size + t161.size ≤ 9223372036854775807
      · rw [if_pos c14] at H
        have c14b0 := eq_true c14
        have c14b1 : decide (t158.size + t161.size ≤ 9223372036854775807) = true := decide_eq_true c14
        try have c14b2 : (9223372036854775807 < t158.size + t161.size) = False := eq_false (Nat.not_lt.2 c14)
        by_cases c15 : (t158 ++ t161).size + 1 ≤ 9223372036854775807
        · rw [if_pos c15] at H
          have c15b0 := eq_true c15
          have c15b1 : decide ((t158 ++ t161).size + 1 ≤ 9223372036854775807) = true := decide_eq_true c15
          have c15b4 : t158.size + t161.size + 1 ≤ 9223372036854775807 := by have z_ := c15; (try simp only [ByteArray.size_append] at z_); exact z_
          have c15b5 : (9223372036854775807 < t158.size + t161.size + 1) = False := eq_false (Nat.not_lt.2 c15b4)
          try have c15b2 : (9223372036854775807 < (t158 ++ t161).size + 1) = False := eq_false (Nat.not_lt.2 c15)
          replace H := Option.bind_eq_some_iff.mp H
          obtain ⟨t162, A160, H⟩ := H
          replace H : (if ((t158 ++ t161) ++ (⟨#[47]⟩ : ByteArray)).size + t162.size ≤ 9223372036854775807 then (some (((t158 ++ t161) ++ (⟨#[47]⟩ : ByteArray)) ++ t162)) else (none)) = some r := H
          have A16 := Aside0.mk A160
          clear A160
          by_cases c17 : ((t158 ++ t161) ++ (⟨#[47]⟩ : ByteArray)).size + t162.size ≤ 9223372036854775807
          · rw [if_pos c17] at H
            have c17b0 := eq_true c17
            have c17b1 : decide (((t158 ++ t161) ++ (⟨#[47]⟩ : ByteArray)).size + t162.size ≤ 9223372036854775807) = true := decide_eq_true c17
            have c17b4 : t158.size + t161.size + 1 + t162.size ≤ 9223372036854775807 := by have z_ := c17; (try simp only [ByteArray.size_append] at z_); exact z_
            have c17b5 : (9223372036854775807 < t158.size + t161.size + 1 + t162.size) = False := eq_false (Nat.not_lt.2 c17b4)
            try have c17b2 : (9223372036854775807 < ((t158 ++ t161) ++ (⟨#[47]⟩ : ByteArray)).size + t162.size) = False := eq_false (Nat.not_lt.2 c17)
            obtain rfl := Option.some.inj H
            simp only [Option.some.injEq, Prod.mk.injEq] at H
            obtain ⟨rfl⟩ := H
            go_enter Tryd.func18, Tryd.ntmps18
            try go_wp2_with (first | ((with_reducible refine gate_dst (N := 1) rfl ?_); refine box_event ?hg (N := 1) ?hd (cs := #[.int .i64 a0_0, .int .i64 a0_1]) (t := 23) ?hr ?_; (case hd => rfl); (case hg => rfl); (case hr => first | (go_simp; done) | (go_simp; rfl)); intro gb156 hg w18 hbox hb; have n0_ := Aside0.mk (below_step (by repeat (first | (with_reducible first | exact HB.out | apply below_alloc | apply pw_below_drewN | apply below_drew1) | exact HB.out)) hb); have n1_ := Aside0.mk (hbox); have n2_ := Aside0.mk ((by rw [hg]; exact (below_size (by repeat (first | (with_reducible first | exact HB.out | apply below_alloc | apply pw_below_drewN | apply below_drew1) | exact HB.out))) : w.heap.size ≤ gb156)); have n3_ := Aside0.mk ((by rw [hg]; exact (below_size (by repeat (first | (with_reducible first | exact HB.out | apply below_alloc | apply pw_below_drewN | apply below_drew1) | exact HB.out))) : w.heap.size ≤ gb156)); clear HB; have HB := n0_; have BK156 := n1_; have GW156 := n2_; have GE156 := n3_; clear n0_ n1_ n2_ n3_; clear hb hbox hg; have hcz19_0 : w18.cell? ⟨gb156, 0, none⟩ = some (.int .i64 a0_0) := (blk_cell BK156.out 0).trans rfl; have hcz19_1 : w18.cell? ⟨gb156, 1, none⟩ = some (.int .i64 a0_1) := (blk_cell BK156.out 1).trans rfl; have hfz19_0 := blk_frozen BK156.out 0; have hfz19_1 := blk_frozen BK156.out 1) | ((with_reducible refine gate_callee (f := 16) rfl ?_); refine goesL_ (some 6) rfl rfl Tryd.func16 (by kernel_rfl) rfl #[.agg #[.int .i64 a0_0, .int .i64 a0_1]] rfl (by (try simp only [List.map_toArray, List.map_cons, List.map_nil]); first | done | rfl | (simp only [List.length_drop, List.length_take]; rfl)) ?_; (with_reducible refine (assessorref46_Valid.calls k a0_0 a0_1 true _ A2.out).mono ?_); rintro e w20 ⟨rfl, hb⟩; refine ⟨_, rfl, ?_⟩; have n0_ := Aside0.mk (blk_below (g := gb156) (o := .cells #[.int .i64 a0_0, .int .i64 a0_1] 23 (0, 0)) (by (with_reducible repeat (first | refine blk_drewN ?_ _ | refine blk_drew ?_ | refine blk_alloc ?_ _)); exact BK156.out) hb); have n1_ := Aside0.mk (below_step (by repeat (first | (with_reducible first | exact HB.out | apply below_alloc | apply pw_below_drewN | apply below_drew1 | refine below_set ?_ GE156.out) | exact HB.out)) hb); clear BK156; clear HB; have BK156 := n0_; have HB := n1_; clear n0_ n1_; (try clear hb); (try clear hb2); (try clear hk); (try clear hi); have hcz21_0 : w20.cell? ⟨gb156, 0, none⟩ = some (.int .i64 a0_0) := (blk_cell BK156.out 0).trans rfl; have hcz21_1 : w20.cell? ⟨gb156, 1, none⟩ = some (.int .i64 a0_1) := (blk_cell BK156.out 1).trans rfl; have hfz21_0 := blk_frozen BK156.out 0; have hfz21_1 := blk_frozen BK156.out 1) | ((with_reducible refine gate_callee (f := 46) rfl ?_); refine goesL_ (some 11) rfl rfl Tryd.func46 (by kernel_rfl) rfl #[.int .i64 a0_0] rfl (by (try simp only [List.map_toArray, List.map_cons, List.map_nil]); first | done | rfl | (simp only [List.length_drop, List.length_take]; rfl)) ?_; (with_reducible refine (assessorref46_signed.calls a0_0 t158 t159 _ A4.out).mono ?_); rintro e w' ⟨rfl, ⟨nd, rfl⟩⟩; refine ⟨_, rfl, ?_⟩))
            (try (rw [drewN_self w20]; generalize hq_ : World.drewN w20 _ = w20; have n0_ : Aside0 (w20.heap[gb156]? = some (.cells #[.int .i64 a0_0, .int .i64 a0_1] 23 (0, 0))) := ⟨by rw [← hq_]; exact (by (with_reducible repeat (first | refine blk_drewN ?_ _ | refine blk_drew ?_ | refine blk_alloc ?_ _)); exact BK156.out)⟩; have n1_ : Aside0 (Below w.heap.size w w20) := ⟨by rw [← hq_]; exact (by repeat (first | (with_reducible first | exact HB.out | apply below_alloc | apply pw_below_drewN | apply below_drew1 | refine below_set ?_ GE156.out) | exact HB.out))⟩; clear BK156 HB hq_; have BK156 := n0_; have HB := n1_; clear n0_ n1_))
            have n0_ := Aside0.mk (blk_drew BK156.out)
            have n1_ := Aside0.mk (below_drew1 HB.out)
            clear BK156
            clear HB
            have BK156 := n0_
            have HB := n1_
            clear n0_ n1_
            refine start_ (n := 10) (S := fun w' => w'.cell? ⟨gb156, 0, none⟩ = some (.int .i64 a0_0) ∧ w'.cell? ⟨gb156, 1, none⟩ = some (.int .i64 a0_1)) (ds := []) #[false, false, false, false, false, false, false, false, false, false] (by kernel_rfl) rfl rfl ⟨(blk_cell BK156.out 0).trans rfl, (blk_cell BK156.out 1).trans rfl⟩ (fun hHeld => ?_); refine with_tabW assessorref46_Format.tab6 assessorref46_Format.bits6 (fun HT_ HW_ => ?_)
            generalize w20.drew = w22 at BK156 HB hHeld ⊢
            refine pure_ (i := 0) (N := some 21) (v := ?_) (a' := ?_) #[true, false, false, false, false, false, false, false, false, false] rfl rfl (any_of HT_.out (by kernel_rfl)) (fun _ _ _ h => h) (Or.inl ⟨by rfl, ?_⟩) ?_ ?_
            rotate_left
            · intro w'
              go_simp
              with_reducible rfl
            rotate_left
            · simp only [Act.put, List.setIfInBounds_toArray, List.set_cons_zero, List.set_cons_succ, i64_w, i32_w]
              rfl
            refine pure_ (i := 1) (N := some 22) (v := ?_) (a' := ?_) #[true, true, false, false, false, false, false, false, false, false] rfl rfl (any_of HT_.out (by kernel_rfl)) (fun _ _ _ h => h) (Or.inl ⟨by rfl, ?_⟩) ?_ ?_
            rotate_left
            · intro w'
              go_simp
              with_reducible rfl
            rotate_left
            · simp only [Act.put, List.setIfInBounds_toArray, List.set_cons_zero, List.set_cons_succ, i64_w, i32_w]
              rfl
            refine pure_ (i := 5) (N := some 26) (v := ?_) (a' := ?_) #[true, true, false, false, false, true, false, false, false, false] rfl rfl (any_of HT_.out (by kernel_rfl)) (fun _ _ _ h => h) (Or.inl ⟨by rfl, ?_⟩) ?_ ?_
            rotate_left
            · intro w'
              go_simp
              with_reducible rfl
            rotate_left
            · simp only [Act.put, List.setIfInBounds_toArray, List.set_cons_zero, List.set_cons_succ, i64_w, i32_w]
              rfl
            refine take_ (i := 6) (N := some 27) (v := ?_) (a' := ?_) #[true, true, false, false, false, true, true, false, false, false] rfl rfl (take_ofW HT_.out HW_.out (by kernel_rfl)) (fun _ _ _ h => h) (Or.inl ⟨by rfl, ?_⟩) hHeld ?_ ?_
            rotate_left
            · rintro w' ⟨s0, s1⟩
              go_simp
              with_reducible rfl
            rotate_left
            · simp only [Act.put, List.setIfInBounds_toArray, List.set_cons_zero, List.set_cons_succ, i64_w, i32_w]
              rfl
            refine one_ (i := 2) (N := some 23) #[true, true, true, false, false, true, true, false, false, false] rfl rfl (one_of HT_.out (by kernel_rfl)) (by decide) (fun K hK => ?_)
            refine goes_ Tryd.func47 (by kernel_rfl) rfl #[.int .i64 t159] (by rfl) rfl rfl (by (try simp only [List.map_toArray, List.map_cons, List.map_nil]); first | done | rfl | (simp only [List.length_drop, List.length_take]; rfl)) ?_
            with_reducible refine (assessorref46_Number.calls k t159 t161 _ A13.out).mono ?_
            rintro e w23 ⟨rfl, hb⟩
            refine ⟨_, rfl, ?_⟩
            have n0_ := Aside0.mk (blk_below (g := gb156) (o := .cells #[.int .i64 a0_0, .int .i64 a0_1] 23 (0, 0)) (by (with_reducible repeat (first | refine blk_drewN ?_ _ | refine blk_drew ?_ | refine blk_alloc ?_ _)); exact BK156.out) hb)
            have n1_ := Aside0.mk (below_step (by repeat (first | (with_reducible first | exact HB.out | apply below_alloc | apply pw_below_drewN | apply below_drew1 | refine below_set ?_ GE156.out) | exact HB.out)) hb)
            clear BK156
            clear HB
            have BK156 := n0_
            have HB := n1_
            clear n0_ n1_
            (try clear hb)
            (try clear hb2)
            (try clear hk)
            (try clear hi)
            refine hK.out _ _ ⟨(blk_cell BK156.out 0).trans rfl, (blk_cell BK156.out 1).trans rfl⟩ (fun hHeld => ?_)
            clear hK K
            refine norm_ (a' := ?_) ?_ ?_
            rotate_left
            · show Act.put _ (some 23) _ = _
              simp only [Act.put, List.setIfInBounds_toArray, List.set_cons_zero, List.set_cons_succ, i64_w, i32_w]
              rfl
            refine pure_ (i := 3) (N := some 24) (v := ?_) (a' := ?_) #[true, true, true, true, false, true, true, false, false, false] rfl rfl (any_of HT_.out (by kernel_rfl)) (fun _ _ _ h => h) (Or.inl ⟨by rfl, ?_⟩) ?_ ?_
            rotate_left
            · intro w'
              go_simp
              with_reducible rfl
            rotate_left
            · simp only [Act.put, List.setIfInBounds_toArray, List.set_cons_zero, List.set_cons_succ, i64_w, i32_w]
              rfl
            refine pure_ (i := 4) (N := some 25) (v := ?_) (a' := ?_) #[true, true, true, true, true, true, true, false, false, false] rfl rfl (any_of HT_.out (by kernel_rfl)) (fun _ _ _ h => h) (Or.inl ⟨by rfl, ?_⟩) ?_ ?_
            rotate_left
            · intro w'
              go_simp
              with_reducible rfl
            rotate_left
            · simp only [Act.put, List.setIfInBounds_toArray, List.set_cons_zero, List.set_cons_succ, i64_w, i32_w]
              rfl
            refine one_ (i := 7) (N := some 28) #[true, true, true, true, true, true, true, true, false, false] rfl rfl (one_of HT_.out (by kernel_rfl)) (by decide) (fun K hK => ?_)
            refine goes_ Tryd.func47 (by kernel_rfl) rfl #[.int .i64 a0_1] (by rfl) rfl rfl (by (try simp only [List.map_toArray, List.map_cons, List.map_nil]); first | done | rfl | (simp only [List.length_drop, List.length_take]; rfl)) ?_
            with_reducible refine (assessorref46_Number.calls k a0_1 t162 _ A16.out).mono ?_
            rintro e w24 ⟨rfl, hb⟩
            refine ⟨_, rfl, ?_⟩
            have n0_ := Aside0.mk (blk_below (g := gb156) (o := .cells #[.int .i64 a0_0, .int .i64 a0_1] 23 (0, 0)) (by (with_reducible repeat (first | refine blk_drewN ?_ _ | refine blk_drew ?_ | refine blk_alloc ?_ _)); exact BK156.out) hb)
            have n1_ := Aside0.mk (below_step (by repeat (first | (with_reducible first | exact HB.out | apply below_alloc | apply pw_below_drewN | apply below_drew1 | refine below_set ?_ GE156.out) | exact HB.out)) hb)
            clear BK156
            clear HB
            have BK156 := n0_
            have HB := n1_
            clear n0_ n1_
            (try clear hb)
            (try clear hb2)
            (try clear hk)
            (try clear hi)
            refine hK.out _ _ ⟨(blk_cell BK156.out 0).trans rfl, (blk_cell BK156.out 1).trans rfl⟩ (fun hHeld => ?_)
            clear hK K
            refine norm_ (a' := ?_) ?_ ?_
            rotate_left
            · show Act.put _ (some 28) _ = _
              simp only [Act.put, List.setIfInBounds_toArray, List.set_cons_zero, List.set_cons_succ, i64_w, i32_w]
              rfl
            refine pure_ (i := 8) (N := some 29) (v := ?_) (a' := ?_) #[true, true, true, true, true, true, true, true, true, false] rfl rfl (any_of HT_.out (by kernel_rfl)) (fun _ _ _ h => h) (Or.inl ⟨by rfl, ?_⟩) ?_ ?_
            rotate_left
            · intro w'
              go_simp
              with_reducible rfl
            rotate_left
            · simp only [Act.put, List.setIfInBounds_toArray, List.set_cons_zero, List.set_cons_succ, i64_w, i32_w]
              rfl
            refine pure_ (i := 9) (N := some 2) (v := ?_) (a' := ?_) #[true, true, true, true, true, true, true, true, true, true] rfl rfl (any_of HT_.out (by kernel_rfl)) (fun _ _ _ h => h) (Or.inl ⟨by rfl, ?_⟩) ?_ ?_
            rotate_left
            · intro w'
              go_simp
              with_reducible rfl
            rotate_left
            · simp only [Act.put, List.setIfInBounds_toArray, List.set_cons_zero, List.set_cons_succ, i64_w, i32_w]
              rfl
            refine done_ (done_of HT_.out (by kernel_rfl)) ?_
            try go_wp2
            go_ret
            exact ⟨by first | rfl | (simp [errW_none, errW_some] <;> rfl) | (simp [*, errW_none, errW_some] <;> rfl), by repeat (first | (with_reducible first | exact HB.out | apply below_alloc | apply pw_below_drewN | apply below_drew1 | refine below_set ?_ GE156.out) | exact HB.out)⟩
          · rw [if_neg c17] at H
            exact absurd H (by simp)
        · rw [if_neg c15] at H
          exact absurd H (by simp)
      · rw [if_neg c14] at H
        exact absurd H (by simp)
  · replace c3 := Bool.eq_false_iff.mpr c3
    subst c3
    have H1 : (some (⟨#[]⟩ : ByteArray)) = some r := by rw [if_neg (show ¬ (false = true) by decide)] at H; exact H
    clear H
    have H := H1
    clear H1
    obtain rfl := Option.some.inj H
    simp only [Option.some.injEq, Prod.mk.injEq] at H
    obtain ⟨rfl⟩ := H
    go_enter Tryd.func18, Tryd.ntmps18
    go_wp2_with (first | ((with_reducible refine gate_dst (N := 1) rfl ?_); refine box_event ?hg (N := 1) ?hd (cs := #[.int .i64 a0_0, .int .i64 a0_1]) (t := 23) ?hr ?_; (case hd => rfl); (case hg => rfl); (case hr => first | (go_simp; done) | (go_simp; rfl)); intro gb156 hg w25 hbox hb; have n0_ := Aside0.mk (below_step (by repeat (first | (with_reducible first | exact HB.out | apply below_alloc | apply pw_below_drewN | apply below_drew1) | exact HB.out)) hb); have n1_ := Aside0.mk (hbox); have n2_ := Aside0.mk ((by rw [hg]; exact (below_size (by repeat (first | (with_reducible first | exact HB.out | apply below_alloc | apply pw_below_drewN | apply below_drew1) | exact HB.out))) : w.heap.size ≤ gb156)); have n3_ := Aside0.mk ((by rw [hg]; exact (below_size (by repeat (first | (with_reducible first | exact HB.out | apply below_alloc | apply pw_below_drewN | apply below_drew1) | exact HB.out))) : w.heap.size ≤ gb156)); clear HB; have HB := n0_; have BK156 := n1_; have GW156 := n2_; have GE156 := n3_; clear n0_ n1_ n2_ n3_; clear hb hbox hg; have hcz26_0 : w25.cell? ⟨gb156, 0, none⟩ = some (.int .i64 a0_0) := (blk_cell BK156.out 0).trans rfl; have hcz26_1 : w25.cell? ⟨gb156, 1, none⟩ = some (.int .i64 a0_1) := (blk_cell BK156.out 1).trans rfl; have hfz26_0 := blk_frozen BK156.out 0; have hfz26_1 := blk_frozen BK156.out 1) | ((with_reducible refine gate_callee (f := 16) rfl ?_); refine goesL_ (some 6) rfl rfl Tryd.func16 (by kernel_rfl) rfl #[.agg #[.int .i64 a0_0, .int .i64 a0_1]] rfl (by (try simp only [List.map_toArray, List.map_cons, List.map_nil]); first | done | rfl | (simp only [List.length_drop, List.length_take]; rfl)) ?_; (with_reducible refine (assessorref46_Valid.calls k a0_0 a0_1 false _ A2.out).mono ?_); rintro e w27 ⟨rfl, hb⟩; refine ⟨_, rfl, ?_⟩; have n0_ := Aside0.mk (blk_below (g := gb156) (o := .cells #[.int .i64 a0_0, .int .i64 a0_1] 23 (0, 0)) (by (with_reducible repeat (first | refine blk_drewN ?_ _ | refine blk_drew ?_ | refine blk_alloc ?_ _)); exact BK156.out) hb); have n1_ := Aside0.mk (below_step (by repeat (first | (with_reducible first | exact HB.out | apply below_alloc | apply pw_below_drewN | apply below_drew1 | refine below_set ?_ GE156.out) | exact HB.out)) hb); clear BK156; clear HB; have BK156 := n0_; have HB := n1_; clear n0_ n1_; (try clear hb); (try clear hb2); (try clear hk); (try clear hi)))
    go_ret
    exact ⟨by first | rfl | (simp [errW_none, errW_some] <;> rfl) | (simp [*, errW_none, errW_some] <;> rfl), by repeat (first | (with_reducible first | exact HB.out | apply below_alloc | apply pw_below_drewN | apply below_drew1 | refine below_set ?_ GE156.out) | exact HB.out)⟩

end Go.Proofs.YtkfibjmjamdigaaDoor.Q
-- Written by wip/myprint.py (a program of this repo's own) out of the translation.
namespace Go.Proofs.YtkfibjmjamdigaaDoor.Q
open Go.RowKit Go.Proofs.YtkfibjmjamdigaaDoorW.PrintWords Go.Proofs.YtkfibjmjamdigaaDoorW.PrintLast Go.Proofs.YtkfibjmjamdigaaDoorW.PrintMore
attribute [local go_sem] max2_int min2_int max_two min_two max_three min_three max_four min_four   -- for this text's walks alone
set_option linter.unusedVariables false
set_option linter.unusedSimpArgs false

/-! ### assessorref46_Points: function 20 -/
def assessorref46_Points.j0 : Nat → Int → Bool → Option (ByteArray)
  | 0, _, _ => none
  | k + 1, x0, x10 => if x10 = true then (some (⟨#[]⟩ : ByteArray)) else ((assessorref46_signed.f x0).bind fun bt163 => ((assessorref46_Number.f k (wrap64 (Int.tdiv bt163.2 100))).bind fun t165 => (if bt163.1.size + t165.size ≤ 9223372036854775807 then (if (bt163.1 ++ t165).size + 1 ≤ 9223372036854775807 then ((assessorref46_Number.f k (Int.tmod (wrap64 (Int.tdiv bt163.2 10)) 10)).bind fun t166 => (if ((bt163.1 ++ t165) ++ (⟨#[46]⟩ : ByteArray)).size + t166.size ≤ 9223372036854775807 then ((assessorref46_Number.f k (Int.tmod bt163.2 10)).bind fun t167 => (if (((bt163.1 ++ t165) ++ (⟨#[46]⟩ : ByteArray)) ++ t166).size + t167.size ≤ 9223372036854775807 then (some ((((bt163.1 ++ t165) ++ (⟨#[46]⟩ : ByteArray)) ++ t166) ++ t167)) else (none))) else (none))) else (none)) else (none))))
def assessorref46_Points.f (k : Nat) (a0 : Int) : Option (ByteArray) := if a0 < (-100000000) then (assessorref46_Points.j0 k a0 true) else (assessorref46_Points.j0 k a0 (decide (a0 > 100000000)))
theorem assessorref46_Points.mono_l : ∀ k, (∀ y0 y1, LeO (assessorref46_Points.j0 k y0 y1) (assessorref46_Points.j0 (k + 1) y0 y1))
  | 0 => fun _ _ r h => by simp [assessorref46_Points.j0] at h
  | k + 1 => by
    have ih0 := assessorref46_Points.mono_l k
    · intro y0 y1
      unfold assessorref46_Points.j0
      repeat' first
      | (with_reducible exact ih0 _ _)
      | (with_reducible exact assessorref46_Number.mono _ _)
      | (with_reducible exact LeO.refl _)
      | (with_reducible exact LeO.none _)
      | (with_reducible refine LeO.ite ?_ ?_)
      | (with_reducible refine LeO.bind ?_ (fun _ => ?_))
      | exact ih0 _ _
      | exact assessorref46_Number.mono _ _
      | exact LeO.none _
      | refine LeO.ite ?_ ?_
      | refine LeO.bind ?_ (fun _ => ?_)
theorem assessorref46_Points.mono : ∀ a0 k, LeO (assessorref46_Points.f k a0) (assessorref46_Points.f (k + 1) a0) := by
  intro a0 k
  have ih0 := assessorref46_Points.mono_l k
  unfold assessorref46_Points.f
  repeat' first
      | (with_reducible exact ih0 _ _)
      | (with_reducible exact assessorref46_Number.mono _ _)
      | (with_reducible exact LeO.refl _)
      | (with_reducible exact LeO.none _)
      | (with_reducible refine LeO.ite ?_ ?_)
      | (with_reducible refine LeO.bind ?_ (fun _ => ?_))
      | exact ih0 _ _
      | exact assessorref46_Number.mono _ _
      | exact LeO.none _
      | refine LeO.ite ?_ ?_
      | refine LeO.bind ?_ (fun _ => ?_)
set_option maxHeartbeats 8000000 in
set_option maxRecDepth 100000 in
theorem assessorref46_Points.calls (k : Nat) (a0 : Int) (r : ByteArray) (w : World) (h : assessorref46_Points.f k a0 = some r) :
    Calls Tryd.prog 20 #[.int .i64 a0] w fun e w' => e = .returned (.string r) ∧ Below w.heap.size w w' := by
  have HB := Aside0.mk (Below.refl w.heap.size w)
  have H : (if a0 < (-100000000) then (assessorref46_Points.j0 k a0 true) else (assessorref46_Points.j0 k a0 (decide (a0 > 100000000)))) = some r := h
  clear h
  have HC2 := Aside0.mk H
  clear H
  go_enter Tryd.func20, Tryd.ntmps20
  go_upto_region 1 with (fail)
  go_cut [10] (fun v10 wc => ∃ (kq : Nat) (x10_1 : Bool), v10 = .bool x10_1 ∧ Aside0 (assessorref46_Points.j0 kq a0 x10_1 = some r) ∧ Aside0 (kq ≤ k) ∧ Aside0 (Below w.heap.size w wc))
  case first =>
    have H := HC2.out
    clear HC2
    by_cases c3 : a0 < (-100000000)
    · rw [if_pos c3] at H
      have c3b0 : decide (a0 < (-100000000)) = true := decide_eq_true c3
      clear c3
      (first | rw [c3b0] | (simp only [i64_w, i32_w]; rw [c3b0]) | skip)
      have H' := Aside0.mk H
      clear H
      go_wp2
      go_meet
      case rel => exact ⟨_, (true), (by first | rfl | (simp; done) | (simp [*]; done)), H', ⟨by first | omega | exact Nat.le_refl _⟩, ⟨by repeat (first | (with_reducible first | exact HB.out | apply below_alloc | apply pw_below_drewN | apply below_drew1) | exact HB.out)⟩⟩
    · rw [if_neg c3] at H
      have c3b0 : decide (a0 < (-100000000)) = false := decide_eq_false c3
      clear c3
      (first | rw [c3b0] | (simp only [i64_w, i32_w]; rw [c3b0]) | skip)
      have H' := Aside0.mk H
      clear H
      go_wp2
      go_meet
      case rel => exact ⟨_, (decide (a0 > 100000000)), (by first | rfl | (simp; done) | (simp [*]; done)), H', ⟨by first | omega | exact Nat.le_refl _⟩, ⟨by repeat (first | (with_reducible first | exact HB.out | apply below_alloc | apply pw_below_drewN | apply below_drew1) | exact HB.out)⟩⟩
  case rest =>
    clear HC2
    try clear c2
    try clear p2
    try clear c3
    try clear c3b0
    obtain ⟨kq, x10_1, rfl, HA, HJ1, HB⟩ := hcut
    cases kq with
    | zero => exact absurd HA.out (by simp [assessorref46_Points.j0])
    | succ kj1 =>
      have H := HA.out
      clear HA
      simp only [assessorref46_Points.j0] at H
      by_cases c4 : x10_1 = true
      · subst c4
        have H1 : (some (⟨#[]⟩ : ByteArray)) = some r := by rw [if_pos rfl] at H; exact H
        clear H
        have H := H1
        clear H1
        obtain rfl := Option.some.inj H
        simp only [Option.some.injEq, Prod.mk.injEq] at H
        obtain ⟨rfl⟩ := H
        go_wp2
        go_ret
        exact ⟨by first | rfl | (simp [errW_none, errW_some] <;> rfl) | (simp [*, errW_none, errW_some] <;> rfl), by repeat (first | (with_reducible first | exact HB.out | apply below_alloc | apply pw_below_drewN | apply below_drew1) | exact HB.out)⟩
      · replace c4 := Bool.eq_false_iff.mpr c4
        subst c4
        have H1 : ((assessorref46_signed.f a0).bind fun bt163 => ((assessorref46_Number.f kj1 (wrap64 (Int.tdiv bt163.2 100))).bind fun t165 => (if bt163.1.size + t165.size ≤ 9223372036854775807 then (if (bt163.1 ++ t165).size + 1 ≤ 9223372036854775807 then ((assessorref46_Number.f kj1 (Int.tmod (wrap64 (Int.tdiv bt163.2 10)) 10)).bind fun t166 => (if ((bt163.1 ++ t165) ++ (⟨#[46]⟩ : ByteArray)).size + t166.size ≤ 9223372036854775807 then ((assessorref46_Number.f kj1 (Int.tmod bt163.2 10)).bind fun t167 => (if (((bt163.1 ++ t165) ++ (⟨#[46]⟩ : ByteArray)) ++ t166).size + t167.size ≤ 9223372036854775807 then (some ((((bt163.1 ++ t165) ++ (⟨#[46]⟩ : ByteArray)) ++ t166) ++ t167)) else (none))) else (none))) else (none)) else (none)))) = some r := by rw [if_neg (show ¬ (false = true) by decide)] at H; exact H
        clear H
        have H := H1
        clear H1
        replace H := Option.bind_eq_some_iff.mp H
        obtain ⟨⟨t163, t164⟩, A50, H⟩ := H
        replace H : ((assessorref46_Number.f kj1 (wrap64 (Int.tdiv t164 100))).bind fun t165 => (if t163.size + t165.size ≤ 9223372036854775807 then (if (t163 ++ t165).size + 1 ≤ 9223372036854775807 then ((assessorref46_Number.f kj1 (Int.tmod (wrap64 (Int.tdiv t164 10)) 10)).bind fun t166 => (if ((t163 ++ t165) ++ (⟨#[46]⟩ : ByteArray)).size + t166.size ≤ 9223372036854775807 then ((assessorref46_Number.f kj1 (Int.tmod t164 10)).bind fun t167 => (if (((t163 ++ t165) ++ (⟨#[46]⟩ : ByteArray)) ++ t166).size + t167.size ≤ 9223372036854775807 then (some ((((t163 ++ t165) ++ (⟨#[46]⟩ : ByteArray)) ++ t166) ++ t167)) else (none))) else (none))) else (none)) else (none))) = some r := H
        have A5 := Aside0.mk A50
        clear A50
        replace H := Option.bind_eq_some_iff.mp H
        obtain ⟨t165, A60, H⟩ := H
        replace H : (if t163.size + t165.size ≤ 9223372036854775807 then (if (t163 ++ t165).size + 1 ≤ 9223372036854775807 then ((assessorref46_Number.f kj1 (Int.tmod (wrap64 (Int.tdiv t164 10)) 10)).bind fun t166 => (if ((t163 ++ t165) ++ (⟨#[46]⟩ : ByteArray)).size + t166.size ≤ 9223372036854775807 then ((assessorref46_Number.f kj1 (Int.tmod t164 10)).bind fun t167 => (if (((t163 ++ t165) ++ (⟨#[46]⟩ : ByteArray)) ++ t166).size + t167.size ≤ 9223372036854775807 then (some ((((t163 ++ t165) ++ (⟨#[46]⟩ : ByteArray)) ++ t166) ++ t167)) else (none))) else (none))) else (none)) else (none)) = some r := H
        have A6 := Aside0.mk A60
        clear A60
        by_cases c7 : t163.size + t165.size ≤ 9223372036854775807
        · rw [if_pos c7] at H
          have c7b0 := eq_true c7
          have c7b1 : decide (t163.size + t165.size ≤ 9223372036854775807) = true := decide_eq_true c7
          try have c7b2 : (9223372036854775807 < t163.size + t165.size) = False := eq_false (Nat.not_lt.2 c7)
          by_cases c8 : (t163 ++ t165).size + 1 ≤ 9223372036854775807
          · rw [if_pos c8] at H
            have c8b0 := eq_true c8
            have c8b1 : decide ((t163 ++ t165).size + 1 ≤ 9223372036854775807) = true := decide_eq_true c8
            have c8b4 : t163.size + t165.size + 1 ≤ 9223372036854775807 := by have z_ := c8; (try simp only [ByteArray.size_append] at z_); exact z_
            have c8b5 : (9223372036854775807 < t163.size + t165.size + 1) = False := eq_false (Nat.not_lt.2 c8b4)
            try have c8b2 : (9223372036854775807 < (t163 ++ t165).size + 1) = False := eq_false (Nat.not_lt.2 c8)
            replace H := Option.bind_eq_some_iff.mp H
            obtain ⟨t166, A90, H⟩ := H
            replace H : (if ((t163 ++ t165) ++ (⟨#[46]⟩ : ByteArray)).size + t166.size ≤ 9223372036854775807 then ((assessorref46_Number.f kj1 (Int.tmod t164 10)).bind fun t167 => (if (((t163 ++ t165) ++ (⟨#[46]⟩ : ByteArray)) ++ t166).size + t167.size ≤ 9223372036854775807 then (some ((((t163 ++ t165) ++ (⟨#[46]⟩ : ByteArray)) ++ t166) ++ t167)) else (none))) else (none)) = some r := H
            have A9 := Aside0.mk A90
            clear A90
            by_cases c10 : ((t163 ++ t165) ++ (⟨#[46]⟩ : ByteArray)).size + t166.size ≤ 9223372036854775807
            · rw [if_pos c10] at H
              have c10b0 := eq_true c10
              have c10b1 : decide (((t163 ++ t165) ++ (⟨#[46]⟩ : ByteArray)).size + t166.size ≤ 9223372036854775807) = true := decide_eq_true c10
              have c10b4 : t163.size + t165.size + 1 + t166.size ≤ 9223372036854775807 := by have z_ := c10; (try simp only [ByteArray.size_append] at z_); exact z_
              have c10b5 : (9223372036854775807 < t163.size + t165.size + 1 + t166.size) = False := eq_false (Nat.not_lt.2 c10b4)
              try have c10b2 : (9223372036854775807 < ((t163 ++ t165) ++ (⟨#[46]⟩ : ByteArray)).size + t166.size) = False := eq_false (Nat.not_lt.2 c10)
              replace H := Option.bind_eq_some_iff.mp H
              obtain ⟨t167, A110, H⟩ := H
              replace H : (if (((t163 ++ t165) ++ (⟨#[46]⟩ : ByteArray)) ++ t166).size + t167.size ≤ 9223372036854775807 then (some ((((t163 ++ t165) ++ (⟨#[46]⟩ : ByteArray)) ++ t166) ++ t167)) else (none)) = some r := H
              have A11 := Aside0.mk A110
              clear A110
              by_cases c12 : (((t163 ++ t165) ++ (⟨#[46]⟩ : ByteArray)) ++ t166).size + t167.size ≤ 9223372036854775807
              · rw [if_pos c12] at H
                have c12b0 := eq_true c12
                have c12b1 : decide ((((t163 ++ t165) ++ (⟨#[46]⟩ : ByteArray)) ++ t166).size + t167.size ≤ 9223372036854775807) = true := decide_eq_true c12
                have c12b4 : t163.size + t165.size + 1 + t166.size + t167.size ≤ 9223372036854775807 := by have z_ := c12; (try simp only [ByteArray.size_append] at z_); exact z_
                have c12b5 : (9223372036854775807 < t163.size + t165.size + 1 + t166.size + t167.size) = False := eq_false (Nat.not_lt.2 c12b4)
                try have c12b2 : (9223372036854775807 < (((t163 ++ t165) ++ (⟨#[46]⟩ : ByteArray)) ++ t166).size + t167.size) = False := eq_false (Nat.not_lt.2 c12)
                obtain rfl := Option.some.inj H
                simp only [Option.some.injEq, Prod.mk.injEq] at H
                obtain ⟨rfl⟩ := H
                go_wp2_with (first | ((with_reducible refine gate_callee (f := 46) rfl ?_); refine goesL_ (some 13) rfl rfl Tryd.func46 (by kernel_rfl) rfl #[.int .i64 a0] rfl (by (try simp only [List.map_toArray, List.map_cons, List.map_nil]); first | done | rfl | (simp only [List.length_drop, List.length_take]; rfl)) ?_; (with_reducible refine (assessorref46_signed.calls a0 t163 t164 _ A5.out).mono ?_); rintro e w' ⟨rfl, ⟨nd, rfl⟩⟩; refine ⟨_, rfl, ?_⟩) | ((with_reducible refine gate_callee (f := 47) rfl ?_); refine goesL_ (some 19) rfl rfl Tryd.func47 (by kernel_rfl) rfl #[.int .i64 (wrap64 (Int.tdiv t164 100))] rfl (by (try simp only [List.map_toArray, List.map_cons, List.map_nil]); first | done | rfl | (simp only [List.length_drop, List.length_take]; rfl)) ?_; (with_reducible refine (assessorref46_Number.calls kj1 (wrap64 (Int.tdiv t164 100)) t165 _ A6.out).mono ?_); rintro e w13 ⟨rfl, hb⟩; refine ⟨_, rfl, ?_⟩; have n0_ := Aside0.mk (below_step (by repeat (first | (with_reducible first | exact HB.out | apply below_alloc | apply pw_below_drewN | apply below_drew1) | exact HB.out)) hb); clear HB; have HB := n0_; clear n0_; (try clear hb); (try clear hb2); (try clear hk); (try clear hi)) | ((with_reducible refine gate_callee (f := 47) rfl ?_); refine goesL_ (some 25) rfl rfl Tryd.func47 (by kernel_rfl) rfl #[.int .i64 (Int.tmod (wrap64 (Int.tdiv t164 10)) 10)] rfl (by (try simp only [List.map_toArray, List.map_cons, List.map_nil]); first | done | rfl | (simp only [List.length_drop, List.length_take]; rfl)) ?_; (with_reducible refine (assessorref46_Number.calls kj1 (Int.tmod (wrap64 (Int.tdiv t164 10)) 10) t166 _ A9.out).mono ?_); rintro e w14 ⟨rfl, hb⟩; refine ⟨_, rfl, ?_⟩; have n0_ := Aside0.mk (below_step (by repeat (first | (with_reducible first | exact HB.out | apply below_alloc | apply pw_below_drewN | apply below_drew1) | exact HB.out)) hb); clear HB; have HB := n0_; clear n0_; (try clear hb); (try clear hb2); (try clear hk); (try clear hi)) | ((with_reducible refine gate_callee (f := 47) rfl ?_); refine goesL_ (some 29) rfl rfl Tryd.func47 (by kernel_rfl) rfl #[.int .i64 (Int.tmod t164 10)] rfl (by (try simp only [List.map_toArray, List.map_cons, List.map_nil]); first | done | rfl | (simp only [List.length_drop, List.length_take]; rfl)) ?_; (with_reducible refine (assessorref46_Number.calls kj1 (Int.tmod t164 10) t167 _ A11.out).mono ?_); rintro e w15 ⟨rfl, hb⟩; refine ⟨_, rfl, ?_⟩; have n0_ := Aside0.mk (below_step (by repeat (first | (with_reducible first | exact HB.out | apply below_alloc | apply pw_below_drewN | apply below_drew1) | exact HB.out)) hb); clear HB; have HB := n0_; clear n0_; (try clear hb); (try clear hb2); (try clear hk); (try clear hi)))
                go_ret
                exact ⟨by first | rfl | (simp [errW_none, errW_some] <;> rfl) | (simp [*, errW_none, errW_some] <;> rfl), by repeat (first | (with_reducible first | exact HB.out | apply below_alloc | apply pw_below_drewN | apply below_drew1) | exact HB.out)⟩
              · rw [if_neg c12] at H
                exact absurd H (by simp)
            · rw [if_neg c10] at H
              exact absurd H (by simp)
          · rw [if_neg c8] at H
            exact absurd H (by simp)
        · rw [if_neg c7] at H
          exact absurd H (by simp)

end Go.Proofs.YtkfibjmjamdigaaDoor.Q
-- Written by wip/myprint.py (a program of this repo's own) out of the translation.
namespace Go.Proofs.YtkfibjmjamdigaaDoor.Q
open Go.RowKit Go.Proofs.YtkfibjmjamdigaaDoorW.PrintWords Go.Proofs.YtkfibjmjamdigaaDoorW.PrintLast Go.Proofs.YtkfibjmjamdigaaDoorW.PrintMore
attribute [local go_sem] max2_int min2_int max_two min_two max_three min_three max_four min_four   -- for this text's walks alone
set_option linter.unusedVariables false
set_option linter.unusedSimpArgs false

attribute [local go_sem high] eqA23
/-! ### assessorlaw46_FractionForms: function 3 -/
def assessorlaw46_FractionForms.f (k : Nat) (a0_0 : Int) (a0_1 : Int) (a1 : Int) (a2 : Int) : Option (Bool) := (assessorlaw46_awake.f k).bind fun t169 => (if t169 = true then ((fraction_Make.f k a1 a2).bind fun bt170 => ((assessorref46_Make.f k a1 a2).bind fun bt174 => ((fraction_Decimal.f k a0_0 a0_1).bind fun bt178 => ((assessorref46_Decimal.f k a0_0 a0_1).bind fun bt180 => ((fraction_Valid.f k a0_0 a0_1).bind fun t182 => ((assessorref46_Valid.f k a0_0 a0_1).bind fun t183 => (if (t182 == t183) = true then (if (bt170.1 == bt174.1 && (bt170.2.1 == bt174.2.1)) = true then (if bt170.2.2 = bt174.2.2 then ((fraction_Format.f k a0_0 a0_1).bind fun t184 => ((assessorref46_Format.f k a0_0 a0_1).bind fun t185 => (if t184.toList = t185.toList then (if bt178.1.toList = bt180.1.toList then (if (bt178.2 == bt180.2) = true then ((fraction_Points.f k a1).bind fun t186 => ((assessorref46_Points.f k a1).bind fun t187 => (some (t186.toList == t187.toList)))) else (some false)) else (some false)) else (some false)))) else (some false)) else (some false)) else (some false)))))))) else (some false))
theorem assessorlaw46_FractionForms.mono : ∀ a0 a1 a2 a3 k, LeO (assessorlaw46_FractionForms.f k a0 a1 a2 a3) (assessorlaw46_FractionForms.f (k + 1) a0 a1 a2 a3) := by
  intro a0 a1 a2 a3 k
  unfold assessorlaw46_FractionForms.f
  repeat' first
      | (with_reducible exact assessorlaw46_awake.mono _)
      | (with_reducible exact assessorref46_Decimal.mono _ _ _)
      | (with_reducible exact assessorref46_Format.mono _ _ _)
      | (with_reducible exact assessorref46_Make.mono _ _ _)
      | (with_reducible exact assessorref46_Points.mono _ _)
      | (with_reducible exact assessorref46_Valid.mono _ _ _)
      | (with_reducible exact fraction_Decimal.mono _ _ _)
      | (with_reducible exact fraction_Format.mono _ _ _)
      | (with_reducible exact fraction_Make.mono _ _ _)
      | (with_reducible exact fraction_Points.mono _ _)
      | (with_reducible exact fraction_Valid.mono _ _ _)
      | (with_reducible exact LeO.refl _)
      | (with_reducible exact LeO.none _)
      | (with_reducible refine LeO.ite ?_ ?_)
      | (with_reducible refine LeO.bind ?_ (fun _ => ?_))
      | exact assessorlaw46_awake.mono _
      | exact assessorref46_Decimal.mono _ _ _
      | exact assessorref46_Format.mono _ _ _
      | exact assessorref46_Make.mono _ _ _
      | exact assessorref46_Points.mono _ _
      | exact assessorref46_Valid.mono _ _ _
      | exact fraction_Decimal.mono _ _ _
      | exact fraction_Format.mono _ _ _
      | exact fraction_Make.mono _ _ _
      | exact fraction_Points.mono _ _
      | exact fraction_Valid.mono _ _ _
      | exact LeO.none _
      | refine LeO.ite ?_ ?_
      | refine LeO.bind ?_ (fun _ => ?_)
def assessorlaw46_FractionForms.T7 : Bool × List (List Nat × List Nat) := (true, [([], []), ([0], [0]), ([], []), ([2, 1], [2]), ([1, 3], [1, 3]), ([4, 3], [4]), ([5], [5]), ([5], [5]), ([6, 7, 5], [5, 6, 7]), ([5, 8], [5, 8]), ([9, 5], [9]), ([10], [10]), ([10], [10]), ([11, 12, 10], [10, 11, 12]), ([10, 13], [10, 13]), ([14, 10], [14]), ([15], [15]), ([16, 15, 15], [15, 16]), ([15], [15]), ([18, 17, 15], [15, 18]), ([17, 19, 15], [15, 17, 19]), ([15, 20], [15, 20]), ([21, 19], [21]), ([22], [22]), ([22], [22]), ([23, 24, 22], [22, 23, 24]), ([22, 25], [22, 25]), ([26, 22], [26]), ([27], [27]), ([27], [27]), ([28, 29, 27], [27, 28, 29]), ([27, 30], [27, 30]), ([31, 27], [31]), ([32], [32]), ([33, 32, 32], [32, 33]), ([32], [32]), ([35, 34, 32], [32, 35]), ([34, 36, 32], [32, 34, 36]), ([32, 37], [32, 37]), ([38, 36, 0, 1, 2, 3, 4, 5, 6, 7, 8, 9, 10, 11, 12, 13, 14, 15, 16, 17, 18, 19, 20, 21, 22, 23, 24, 25, 26, 27, 28, 29, 30, 31, 32, 33, 34, 35, 36, 37, 38], [38])])
def assessorlaw46_FractionForms.B7 : List Nat := [0, 1, 0, 7, 15, 31, 63, 63, 255, 511, 1023, 2047, 2047, 8191, 16383, 32767, 65535, 131071, 65535, 524287, 1048575, 2097151, 4194303, 8388607, 8388607, 33554431, 67108863, 134217727, 268435455, 268435455, 1073741823, 2147483647, 4294967295, 8589934591, 17179869183, 8589934591, 68719476735, 137438953471, 274877906943, 549755813887]
theorem assessorlaw46_FractionForms.tab7 : rtab .any (opsOf Tryd.f3 7) = assessorlaw46_FractionForms.T7 := by kernel_rfl
theorem assessorlaw46_FractionForms.bits7 : waitsOk assessorlaw46_FractionForms.T7.2 assessorlaw46_FractionForms.B7 = true := by kernel_rfl
set_option maxHeartbeats 8000000 in
set_option maxRecDepth 100000 in
theorem assessorlaw46_FractionForms.calls (k : Nat) (a0_0 : Int) (a0_1 : Int) (a1 : Int) (a2 : Int) (r : Bool) (w : World) (hr_ : Aside0 (r = true)) (hT_ : Tab w) (h : assessorlaw46_FractionForms.f k a0_0 a0_1 a1 a2 = some r) :
    Calls Tryd.prog 3 #[.agg #[.int .i64 a0_0, .int .i64 a0_1], .int .i64 a1, .int .i64 a2] w fun e w' => e = .returned (.bool r) ∧ Below w.heap.size w w' := by
  have hu23 := Tryd.underlying23
  have HB := Aside0.mk (Below.refl w.heap.size w)
  have H : ((assessorlaw46_awake.f k).bind fun t169 => (if t169 = true then ((fraction_Make.f k a1 a2).bind fun bt170 => ((assessorref46_Make.f k a1 a2).bind fun bt174 => ((fraction_Decimal.f k a0_0 a0_1).bind fun bt178 => ((assessorref46_Decimal.f k a0_0 a0_1).bind fun bt180 => ((fraction_Valid.f k a0_0 a0_1).bind fun t182 => ((assessorref46_Valid.f k a0_0 a0_1).bind fun t183 => (if (t182 == t183) = true then (if (bt170.1 == bt174.1 && (bt170.2.1 == bt174.2.1)) = true then (if bt170.2.2 = bt174.2.2 then ((fraction_Format.f k a0_0 a0_1).bind fun t184 => ((assessorref46_Format.f k a0_0 a0_1).bind fun t185 => (if t184.toList = t185.toList then (if bt178.1.toList = bt180.1.toList then (if (bt178.2 == bt180.2) = true then ((fraction_Points.f k a1).bind fun t186 => ((assessorref46_Points.f k a1).bind fun t187 => (some (t186.toList == t187.toList)))) else (some false)) else (some false)) else (some false)))) else (some false)) else (some false)) else (some false)))))))) else (some false))) = some r := h
  clear h
  replace H := Option.bind_eq_some_iff.mp H
  obtain ⟨t169, A40, H⟩ := H
  replace H : (if t169 = true then ((fraction_Make.f k a1 a2).bind fun bt170 => ((assessorref46_Make.f k a1 a2).bind fun bt174 => ((fraction_Decimal.f k a0_0 a0_1).bind fun bt178 => ((assessorref46_Decimal.f k a0_0 a0_1).bind fun bt180 => ((fraction_Valid.f k a0_0 a0_1).bind fun t182 => ((assessorref46_Valid.f k a0_0 a0_1).bind fun t183 => (if (t182 == t183) = true then (if (bt170.1 == bt174.1 && (bt170.2.1 == bt174.2.1)) = true then (if bt170.2.2 = bt174.2.2 then ((fraction_Format.f k a0_0 a0_1).bind fun t184 => ((assessorref46_Format.f k a0_0 a0_1).bind fun t185 => (if t184.toList = t185.toList then (if bt178.1.toList = bt180.1.toList then (if (bt178.2 == bt180.2) = true then ((fraction_Points.f k a1).bind fun t186 => ((assessorref46_Points.f k a1).bind fun t187 => (some (t186.toList == t187.toList)))) else (some false)) else (some false)) else (some false)))) else (some false)) else (some false)) else (some false)))))))) else (some false)) = some r := H
  have A4 := Aside0.mk A40
  clear A40
  by_cases c5 : t169 = true
  · subst c5
    have H1 : ((fraction_Make.f k a1 a2).bind fun bt170 => ((assessorref46_Make.f k a1 a2).bind fun bt174 => ((fraction_Decimal.f k a0_0 a0_1).bind fun bt178 => ((assessorref46_Decimal.f k a0_0 a0_1).bind fun bt180 => ((fraction_Valid.f k a0_0 a0_1).bind fun t182 => ((assessorref46_Valid.f k a0_0 a0_1).bind fun t183 => (if (t182 == t183) = true then (if (bt170.1 == bt174.1 && (bt170.2.1 == bt174.2.1)) = true then (if bt170.2.2 = bt174.2.2 then ((fraction_Format.f k a0_0 a0_1).bind fun t184 => ((assessorref46_Format.f k a0_0 a0_1).bind fun t185 => (if t184.toList = t185.toList then (if bt178.1.toList = bt180.1.toList then (if (bt178.2 == bt180.2) = true then ((fraction_Points.f k a1).bind fun t186 => ((assessorref46_Points.f k a1).bind fun t187 => (some (t186.toList == t187.toList)))) else (some false)) else (some false)) else (some false)))) else (some false)) else (some false)) else (some false)))))))) = some r := by rw [if_pos rfl] at H; exact H
    clear H
    have H := H1
    clear H1
    replace H := Option.bind_eq_some_iff.mp H
    obtain ⟨⟨t170, t171, t172⟩, A60, H⟩ := H
    replace H : ((assessorref46_Make.f k a1 a2).bind fun bt174 => ((fraction_Decimal.f k a0_0 a0_1).bind fun bt178 => ((assessorref46_Decimal.f k a0_0 a0_1).bind fun bt180 => ((fraction_Valid.f k a0_0 a0_1).bind fun t182 => ((assessorref46_Valid.f k a0_0 a0_1).bind fun t183 => (if (t182 == t183) = true then (if (t170 == bt174.1 && (t171 == bt174.2.1)) = true then (if t172 = bt174.2.2 then ((fraction_Format.f k a0_0 a0_1).bind fun t184 => ((assessorref46_Format.f k a0_0 a0_1).bind fun t185 => (if t184.toList = t185.toList then (if bt178.1.toList = bt180.1.toList then (if (bt178.2 == bt180.2) = true then ((fraction_Points.f k a1).bind fun t186 => ((assessorref46_Points.f k a1).bind fun t187 => (some (t186.toList == t187.toList)))) else (some false)) else (some false)) else (some false)))) else (some false)) else (some false)) else (some false))))))) = some r := H
    have A6 := Aside0.mk A60
    clear A60
    replace H := Option.bind_eq_some_iff.mp H
    obtain ⟨⟨t174, t175, t176⟩, A70, H⟩ := H
    replace H : ((fraction_Decimal.f k a0_0 a0_1).bind fun bt178 => ((assessorref46_Decimal.f k a0_0 a0_1).bind fun bt180 => ((fraction_Valid.f k a0_0 a0_1).bind fun t182 => ((assessorref46_Valid.f k a0_0 a0_1).bind fun t183 => (if (t182 == t183) = true then (if (t170 == t174 && (t171 == t175)) = true then (if t172 = t176 then ((fraction_Format.f k a0_0 a0_1).bind fun t184 => ((assessorref46_Format.f k a0_0 a0_1).bind fun t185 => (if t184.toList = t185.toList then (if bt178.1.toList = bt180.1.toList then (if (bt178.2 == bt180.2) = true then ((fraction_Points.f k a1).bind fun t186 => ((assessorref46_Points.f k a1).bind fun t187 => (some (t186.toList == t187.toList)))) else (some false)) else (some false)) else (some false)))) else (some false)) else (some false)) else (some false)))))) = some r := H
    have A7 := Aside0.mk A70
    clear A70
    replace H := Option.bind_eq_some_iff.mp H
    obtain ⟨⟨t178, t179⟩, A80, H⟩ := H
    replace H : ((assessorref46_Decimal.f k a0_0 a0_1).bind fun bt180 => ((fraction_Valid.f k a0_0 a0_1).bind fun t182 => ((assessorref46_Valid.f k a0_0 a0_1).bind fun t183 => (if (t182 == t183) = true then (if (t170 == t174 && (t171 == t175)) = true then (if t172 = t176 then ((fraction_Format.f k a0_0 a0_1).bind fun t184 => ((assessorref46_Format.f k a0_0 a0_1).bind fun t185 => (if t184.toList = t185.toList then (if t178.toList = bt180.1.toList then (if (t179 == bt180.2) = true then ((fraction_Points.f k a1).bind fun t186 => ((assessorref46_Points.f k a1).bind fun t187 => (some (t186.toList == t187.toList)))) else (some false)) else (some false)) else (some false)))) else (some false)) else (some false)) else (some false))))) = some r := H
    have A8 := Aside0.mk A80
    clear A80
    replace H := Option.bind_eq_some_iff.mp H
    obtain ⟨⟨t180, t181⟩, A90, H⟩ := H
    replace H : ((fraction_Valid.f k a0_0 a0_1).bind fun t182 => ((assessorref46_Valid.f k a0_0 a0_1).bind fun t183 => (if (t182 == t183) = true then (if (t170 == t174 && (t171 == t175)) = true then (if t172 = t176 then ((fraction_Format.f k a0_0 a0_1).bind fun t184 => ((assessorref46_Format.f k a0_0 a0_1).bind fun t185 => (if t184.toList = t185.toList then (if t178.toList = t180.toList then (if (t179 == t181) = true then ((fraction_Points.f k a1).bind fun t186 => ((assessorref46_Points.f k a1).bind fun t187 => (some (t186.toList == t187.toList)))) else (some false)) else (some false)) else (some false)))) else (some false)) else (some false)) else (some false)))) = some r := H
    have A9 := Aside0.mk A90
    clear A90
    replace H := Option.bind_eq_some_iff.mp H
    obtain ⟨t182, A100, H⟩ := H
    replace H : ((assessorref46_Valid.f k a0_0 a0_1).bind fun t183 => (if (t182 == t183) = true then (if (t170 == t174 && (t171 == t175)) = true then (if t172 = t176 then ((fraction_Format.f k a0_0 a0_1).bind fun t184 => ((assessorref46_Format.f k a0_0 a0_1).bind fun t185 => (if t184.toList = t185.toList then (if t178.toList = t180.toList then (if (t179 == t181) = true then ((fraction_Points.f k a1).bind fun t186 => ((assessorref46_Points.f k a1).bind fun t187 => (some (t186.toList == t187.toList)))) else (some false)) else (some false)) else (some false)))) else (some false)) else (some false)) else (some false))) = some r := H
    have A10 := Aside0.mk A100
    clear A100
    replace H := Option.bind_eq_some_iff.mp H
    obtain ⟨t183, A110, H⟩ := H
    replace H : (if (t182 == t183) = true then (if (t170 == t174 && (t171 == t175)) = true then (if t172 = t176 then ((fraction_Format.f k a0_0 a0_1).bind fun t184 => ((assessorref46_Format.f k a0_0 a0_1).bind fun t185 => (if t184.toList = t185.toList then (if t178.toList = t180.toList then (if (t179 == t181) = true then ((fraction_Points.f k a1).bind fun t186 => ((assessorref46_Points.f k a1).bind fun t187 => (some (t186.toList == t187.toList)))) else (some false)) else (some false)) else (some false)))) else (some false)) else (some false)) else (some false)) = some r := H
    have A11 := Aside0.mk A110
    clear A110
    by_cases c12 : (t182 == t183) = true
    · rw [if_pos c12] at H
      have c12b0 : (t182 == t183) = true := c12
      (try (have c12b1 : decide (t182 = t183) = true := by simpa using c12))
      (try (have c12b2 : (t182 == t183) = true := by simpa using c12))
      clear c12
      by_cases c13 : (t170 == t174 && (t171 == t175)) = true
      · rw [if_pos c13] at H
        have c13b0 : (t170 == t174 && (t171 == t175)) = true := c13
        (try (have c13b1 : decide (t170 = t174 && (t171 == t175)) = true := by simpa using c13))
        (try (have c13b2 : (t170 == t174 && (t171 == t175)) = true := by simpa using c13))
        clear c13
        by_cases c14 : t172 = t176
        · rw [if_pos c14] at H
          have c14b0 : (t172 == t176) = true := beq_iff_eq.mpr c14
          have c14b1 : (t172 != t176) = false := bne_eq_false_iff_eq.mpr c14
          clear c14
          replace H := Option.bind_eq_some_iff.mp H
          obtain ⟨t184, A150, H⟩ := H
          replace H : ((assessorref46_Format.f k a0_0 a0_1).bind fun t185 => (if t184.toList = t185.toList then (if t178.toList = t180.toList then (if (t179 == t181) = true then ((fraction_Points.f k a1).bind fun t186 => ((assessorref46_Points.f k a1).bind fun t187 => (some (t186.toList == t187.toList)))) else (some false)) else (some false)) else (some false))) = some r := H
          have A15 := Aside0.mk A150
          clear A150
          replace H := Option.bind_eq_some_iff.mp H
          obtain ⟨t185, A160, H⟩ := H
          replace H : (if t184.toList = t185.toList then (if t178.toList = t180.toList then (if (t179 == t181) = true then ((fraction_Points.f k a1).bind fun t186 => ((assessorref46_Points.f k a1).bind fun t187 => (some (t186.toList == t187.toList)))) else (some false)) else (some false)) else (some false)) = some r := H
          have A16 := Aside0.mk A160
          clear A160
          by_cases c17 : t184.toList = t185.toList
          · rw [if_pos c17] at H
            have c17b0 : (t184.toList == t185.toList) = true := beq_iff_eq.mpr c17
            have c17b1 : (t184.toList != t185.toList) = false := bne_eq_false_iff_eq.mpr c17
            clear c17
            by_cases c18 : t178.toList = t180.toList
            · rw [if_pos c18] at H
              have c18b0 : (t178.toList == t180.toList) = true := beq_iff_eq.mpr c18
              have c18b1 : (t178.toList != t180.toList) = false := bne_eq_false_iff_eq.mpr c18
              clear c18
              by_cases c19 : (t179 == t181) = true
              · rw [if_pos c19] at H
                have c19b0 : (t179 == t181) = true := c19
                (try (have c19b1 : decide (t179 = t181) = true := by simpa using c19))
                (try (have c19b2 : (t179 == t181) = true := by simpa using c19))
                clear c19
                replace H := Option.bind_eq_some_iff.mp H
                obtain ⟨t186, A200, H⟩ := H
                replace H : ((assessorref46_Points.f k a1).bind fun t187 => (some (t186.toList == t187.toList))) = some r := H
                have A20 := Aside0.mk A200
                clear A200
                replace H := Option.bind_eq_some_iff.mp H
                obtain ⟨t187, A210, H⟩ := H
                replace H : (some (t186.toList == t187.toList)) = some r := H
                have A21 := Aside0.mk A210
                clear A210
                obtain rfl := Option.some.inj H
                simp only [Option.some.injEq, Prod.mk.injEq] at H
                obtain ⟨rfl⟩ := H
                go_enter Tryd.func3, Tryd.ntmps3
                try go_wp2_with (first | ((with_reducible refine gate_dst (N := 3) rfl ?_); refine box_event ?hg (N := 3) ?hd (cs := #[.int .i64 a0_0, .int .i64 a0_1]) (t := 23) ?hr ?_; (case hd => rfl); (case hg => rfl); (case hr => first | (go_simp; done) | (go_simp; rfl)); intro gb168 hg w22 hbox hb; have n0_ := Aside0.mk (below_step (by repeat (first | (with_reducible first | exact HB.out | apply below_alloc | apply pw_below_drewN | apply below_drew1) | exact HB.out)) hb); have n1_ := Aside0.mk (hbox); have n2_ := Aside0.mk ((by rw [hg]; exact (below_size (by repeat (first | (with_reducible first | exact HB.out | apply below_alloc | apply pw_below_drewN | apply below_drew1) | exact HB.out))) : w.heap.size ≤ gb168)); have n3_ := Aside0.mk ((by rw [hg]; exact (below_size (by repeat (first | (with_reducible first | exact HB.out | apply below_alloc | apply pw_below_drewN | apply below_drew1) | exact HB.out))) : w.heap.size ≤ gb168)); clear HB; have HB := n0_; have BK168 := n1_; have GW168 := n2_; have GE168 := n3_; clear n0_ n1_ n2_ n3_; clear hb hbox hg) | ((with_reducible refine gate_callee (f := 10) rfl ?_); refine goesL_ (some 15) rfl rfl Tryd.func10 (by kernel_rfl) rfl #[] rfl (by (try simp only [List.map_toArray, List.map_cons, List.map_nil]); first | done | rfl | (simp only [List.length_drop, List.length_take]; rfl)) ?_; (with_reducible refine (assessorlaw46_awake.calls k  true _ ?side1 A4.out).mono ?_); (case side1 => exact Tab.below hT_ (by repeat (first | (with_reducible first | exact HB.out | apply below_alloc | apply pw_below_drewN | apply below_drew1 | refine below_set ?_ GE168.out) | exact HB.out))); rintro e w23 ⟨rfl, hb⟩; refine ⟨_, rfl, ?_⟩; have n0_ := Aside0.mk (blk_below (g := gb168) (o := .cells #[.int .i64 a0_0, .int .i64 a0_1] 23 (0, 0)) (by (with_reducible repeat (first | refine blk_drewN ?_ _ | refine blk_drew ?_ | refine blk_alloc ?_ _)); exact BK168.out) hb); have n1_ := Aside0.mk (below_step (by repeat (first | (with_reducible first | exact HB.out | apply below_alloc | apply pw_below_drewN | apply below_drew1 | refine below_set ?_ GE168.out) | exact HB.out)) hb); clear BK168; clear HB; have BK168 := n0_; have HB := n1_; clear n0_ n1_; (try clear hb); (try clear hb2); (try clear hk); (try clear hi)) | ((with_reducible refine gate_callee (f := 11) rfl ?_); refine goesL_ (some 20) rfl rfl Tryd.func11 (by kernel_rfl) rfl #[.int .i64 a1, .int .i64 a2] rfl (by (try simp only [List.map_toArray, List.map_cons, List.map_nil]); first | done | rfl | (simp only [List.length_drop, List.length_take]; rfl)) ?_; (with_reducible refine (fraction_Make.calls k a1 a2 t170 t171 t172 _ A6.out).mono ?_); rintro e w24 ⟨rfl, hb⟩; refine ⟨_, rfl, ?_⟩; have n0_ := Aside0.mk (blk_below (g := gb168) (o := .cells #[.int .i64 a0_0, .int .i64 a0_1] 23 (0, 0)) (by (with_reducible repeat (first | refine blk_drewN ?_ _ | refine blk_drew ?_ | refine blk_alloc ?_ _)); exact BK168.out) hb); have n1_ := Aside0.mk (below_step (by repeat (first | (with_reducible first | exact HB.out | apply below_alloc | apply pw_below_drewN | apply below_drew1 | refine below_set ?_ GE168.out) | exact HB.out)) hb); clear BK168; clear HB; have BK168 := n0_; have HB := n1_; clear n0_ n1_; (try clear hb); (try clear hb2); (try clear hk); (try clear hi)) | ((with_reducible refine gate_dst (N := 7) rfl ?_); refine box_event ?hg (N := 7) ?hd (cs := #[.int .i64 0, .int .i64 0]) (t := 23) ?hr ?_; (case hd => rfl); (case hg => rfl); (case hr => first | (go_simp; done) | (go_simp; rfl)); intro gb173 hg w25 hbox hb; have n0_ := Aside0.mk (blk_below (g := gb168) (o := .cells #[.int .i64 a0_0, .int .i64 a0_1] 23 (0, 0)) (by (with_reducible repeat (first | refine blk_drewN ?_ _ | refine blk_drew ?_ | refine blk_alloc ?_ _)); exact BK168.out) hb); have n1_ := Aside0.mk (below_step (by repeat (first | (with_reducible first | exact HB.out | apply below_alloc | apply pw_below_drewN | apply below_drew1 | refine below_set ?_ GE168.out) | exact HB.out)) hb); have n2_ := Aside0.mk (hbox); have n3_ := Aside0.mk ((by rw [hg]; exact (below_size (by repeat (first | (with_reducible first | exact HB.out | apply below_alloc | apply pw_below_drewN | apply below_drew1 | refine below_set ?_ GE168.out) | exact HB.out))) : w.heap.size ≤ gb173)); have n4_ := Aside0.mk ((by rw [hg]; exact (below_size (by repeat (first | (with_reducible first | exact HB.out | apply below_alloc | apply pw_below_drewN | apply below_drew1 | refine below_set ?_ GE168.out) | exact HB.out))) : w.heap.size ≤ gb173)); have n5_ := Aside0.mk ((by rw [hg]; exact Nat.ne_of_lt (blk_lt (g := gb168) (o := .cells #[.int .i64 a0_0, .int .i64 a0_1] 23 (0, 0)) (by (with_reducible repeat (first | refine blk_drewN ?_ _ | refine blk_drew ?_ | refine blk_alloc ?_ _)); exact BK168.out)) : gb168 ≠ gb173)); have n6_ := Aside0.mk ((by rw [hg]; exact Nat.ne_of_gt (blk_lt (g := gb168) (o := .cells #[.int .i64 a0_0, .int .i64 a0_1] 23 (0, 0)) (by (with_reducible repeat (first | refine blk_drewN ?_ _ | refine blk_drew ?_ | refine blk_alloc ?_ _)); exact BK168.out)) : gb173 ≠ gb168)); clear BK168; clear HB; have BK168 := n0_; have HB := n1_; have BK173 := n2_; have GW173 := n3_; have GE173 := n4_; have NB168_173 := n5_; have NB173_168 := n6_; clear n0_ n1_ n2_ n3_ n4_ n5_ n6_; clear hb hbox hg; have hnb26 := NB173_168.out; have hnc26 := NB168_173.out; have hcz27_0 : w25.cell? ⟨gb173, 0, none⟩ = some (.int .i64 0) := (blk_cell BK173.out 0).trans rfl; have hcz27_1 : w25.cell? ⟨gb173, 1, none⟩ = some (.int .i64 0) := (blk_cell BK173.out 1).trans rfl; have hfz27_0 := blk_frozen BK173.out 0; have hfz27_1 := blk_frozen BK173.out 1) | ((with_reducible refine gate_callee (f := 12) rfl ?_); refine goesL_ (some 26) rfl rfl Tryd.func12 (by kernel_rfl) rfl #[.int .i64 a1, .int .i64 a2] rfl (by (try simp only [List.map_toArray, List.map_cons, List.map_nil]); first | done | rfl | (simp only [List.length_drop, List.length_take]; rfl)) ?_; (with_reducible refine (assessorref46_Make.calls k a1 a2 t174 t175 t176 _ A7.out).mono ?_); rintro e w28 ⟨rfl, hb⟩; refine ⟨_, rfl, ?_⟩; have n0_ := Aside0.mk (blk_below (g := gb168) (o := .cells #[.int .i64 a0_0, .int .i64 a0_1] 23 (0, 0)) (by (with_reducible repeat (first | refine blk_drewN ?_ _ | refine blk_drew ?_ | refine blk_alloc ?_ _)); refine blk_far ?_ NB168_173.out _; (with_reducible repeat (first | refine blk_drewN ?_ _ | refine blk_drew ?_ | refine blk_alloc ?_ _)); refine blk_far ?_ NB168_173.out _; (with_reducible repeat (first | refine blk_drewN ?_ _ | refine blk_drew ?_ | refine blk_alloc ?_ _)); exact BK168.out) hb); have n1_ := Aside0.mk (blk_below (g := gb173) (o := .cells #[.int .i64 t170, .int .i64 t171] 23 (0, 0)) (by (with_reducible repeat (first | refine blk_drewN ?_ _ | refine blk_drew ?_ | refine blk_alloc ?_ _)); refine blk_put (cs := #[.int .i64 t170, .int .i64 0]) ?_ 1 _ rfl; (with_reducible repeat (first | refine blk_drewN ?_ _ | refine blk_drew ?_ | refine blk_alloc ?_ _)); refine blk_put (cs := #[.int .i64 0, .int .i64 0]) ?_ 0 _ rfl; (with_reducible repeat (first | refine blk_drewN ?_ _ | refine blk_drew ?_ | refine blk_alloc ?_ _)); exact BK173.out) hb); have n2_ := Aside0.mk (below_step (by repeat (first | (with_reducible first | exact HB.out | apply below_alloc | apply pw_below_drewN | apply below_drew1 | refine below_set ?_ GE168.out | refine below_set ?_ GE173.out) | exact HB.out)) hb); clear BK168; clear BK173; clear HB; have BK168 := n0_; have BK173 := n1_; have HB := n2_; clear n0_ n1_ n2_; (try clear hb); (try clear hb2); (try clear hk); (try clear hi)) | ((with_reducible refine gate_dst (N := 9) rfl ?_); refine box_event ?hg (N := 9) ?hd (cs := #[.int .i64 0, .int .i64 0]) (t := 23) ?hr ?_; (case hd => rfl); (case hg => rfl); (case hr => first | (go_simp; done) | (go_simp; rfl)); intro gb177 hg w29 hbox hb; have n0_ := Aside0.mk (blk_below (g := gb168) (o := .cells #[.int .i64 a0_0, .int .i64 a0_1] 23 (0, 0)) (by (with_reducible repeat (first | refine blk_drewN ?_ _ | refine blk_drew ?_ | refine blk_alloc ?_ _)); exact BK168.out) hb); have n1_ := Aside0.mk (blk_below (g := gb173) (o := .cells #[.int .i64 t170, .int .i64 t171] 23 (0, 0)) (by (with_reducible repeat (first | refine blk_drewN ?_ _ | refine blk_drew ?_ | refine blk_alloc ?_ _)); exact BK173.out) hb); have n2_ := Aside0.mk (below_step (by repeat (first | (with_reducible first | exact HB.out | apply below_alloc | apply pw_below_drewN | apply below_drew1 | refine below_set ?_ GE168.out | refine below_set ?_ GE173.out) | exact HB.out)) hb); have n3_ := Aside0.mk (hbox); have n4_ := Aside0.mk ((by rw [hg]; exact (below_size (by repeat (first | (with_reducible first | exact HB.out | apply below_alloc | apply pw_below_drewN | apply below_drew1 | refine below_set ?_ GE168.out | refine below_set ?_ GE173.out) | exact HB.out))) : w.heap.size ≤ gb177)); have n5_ := Aside0.mk ((by rw [hg]; exact (below_size (by repeat (first | (with_reducible first | exact HB.out | apply below_alloc | apply pw_below_drewN | apply below_drew1 | refine below_set ?_ GE168.out | refine below_set ?_ GE173.out) | exact HB.out))) : w.heap.size ≤ gb177)); have n6_ := Aside0.mk ((by rw [hg]; exact Nat.ne_of_lt (blk_lt (g := gb168) (o := .cells #[.int .i64 a0_0, .int .i64 a0_1] 23 (0, 0)) (by (with_reducible repeat (first | refine blk_drewN ?_ _ | refine blk_drew ?_ | refine blk_alloc ?_ _)); exact BK168.out)) : gb168 ≠ gb177)); have n7_ := Aside0.mk ((by rw [hg]; exact Nat.ne_of_gt (blk_lt (g := gb168) (o := .cells #[.int .i64 a0_0, .int .i64 a0_1] 23 (0, 0)) (by (with_reducible repeat (first | refine blk_drewN ?_ _ | refine blk_drew ?_ | refine blk_alloc ?_ _)); exact BK168.out)) : gb177 ≠ gb168)); have n8_ := Aside0.mk ((by rw [hg]; exact Nat.ne_of_lt (blk_lt (g := gb173) (o := .cells #[.int .i64 t170, .int .i64 t171] 23 (0, 0)) (by (with_reducible repeat (first | refine blk_drewN ?_ _ | refine blk_drew ?_ | refine blk_alloc ?_ _)); exact BK173.out)) : gb173 ≠ gb177)); have n9_ := Aside0.mk ((by rw [hg]; exact Nat.ne_of_gt (blk_lt (g := gb173) (o := .cells #[.int .i64 t170, .int .i64 t171] 23 (0, 0)) (by (with_reducible repeat (first | refine blk_drewN ?_ _ | refine blk_drew ?_ | refine blk_alloc ?_ _)); exact BK173.out)) : gb177 ≠ gb173)); clear BK168; clear BK173; clear HB; have BK168 := n0_; have BK173 := n1_; have HB := n2_; have BK177 := n3_; have GW177 := n4_; have GE177 := n5_; have NB168_177 := n6_; have NB177_168 := n7_; have NB173_177 := n8_; have NB177_173 := n9_; clear n0_ n1_ n2_ n3_ n4_ n5_ n6_ n7_ n8_ n9_; clear hb hbox hg; have hnb30 := NB177_168.out; have hnc30 := NB168_177.out; have hnb31 := NB177_173.out; have hnc31 := NB173_177.out; have hcz32_0 : w29.cell? ⟨gb177, 0, none⟩ = some (.int .i64 0) := (blk_cell BK177.out 0).trans rfl; have hcz32_1 : w29.cell? ⟨gb177, 1, none⟩ = some (.int .i64 0) := (blk_cell BK177.out 1).trans rfl; have hfz32_0 := blk_frozen BK177.out 0; have hfz32_1 := blk_frozen BK177.out 1; have hcz33_0 : w29.cell? ⟨gb168, 0, none⟩ = some (.int .i64 a0_0) := (blk_cell BK168.out 0).trans rfl; have hcz33_1 : w29.cell? ⟨gb168, 1, none⟩ = some (.int .i64 a0_1) := (blk_cell BK168.out 1).trans rfl; have hfz33_0 := blk_frozen BK168.out 0; have hfz33_1 := blk_frozen BK168.out 1) | ((with_reducible refine gate_callee (f := 13) rfl ?_); refine goesL_ (some 31) rfl rfl Tryd.func13 (by kernel_rfl) rfl #[.agg #[.int .i64 a0_0, .int .i64 a0_1]] rfl (by (try simp only [List.map_toArray, List.map_cons, List.map_nil]); first | done | rfl | (simp only [List.length_drop, List.length_take]; rfl)) ?_; (with_reducible refine (fraction_Decimal.calls k a0_0 a0_1 t178 t179 _ ?side1 A8.out).mono ?_); (case side1 => exact Tab.below hT_ (by repeat (first | (with_reducible first | exact HB.out | apply below_alloc | apply pw_below_drewN | apply below_drew1 | refine below_set ?_ GE168.out | refine below_set ?_ GE173.out | refine below_set ?_ GE177.out) | exact HB.out))); rintro e w34 ⟨rfl, hb⟩; refine ⟨_, rfl, ?_⟩; have n0_ := Aside0.mk (blk_below (g := gb168) (o := .cells #[.int .i64 a0_0, .int .i64 a0_1] 23 (0, 0)) (by (with_reducible repeat (first | refine blk_drewN ?_ _ | refine blk_drew ?_ | refine blk_alloc ?_ _)); refine blk_far ?_ NB168_177.out _; (with_reducible repeat (first | refine blk_drewN ?_ _ | refine blk_drew ?_ | refine blk_alloc ?_ _)); refine blk_far ?_ NB168_177.out _; (with_reducible repeat (first | refine blk_drewN ?_ _ | refine blk_drew ?_ | refine blk_alloc ?_ _)); exact BK168.out) hb); have n1_ := Aside0.mk (blk_below (g := gb173) (o := .cells #[.int .i64 t170, .int .i64 t171] 23 (0, 0)) (by (with_reducible repeat (first | refine blk_drewN ?_ _ | refine blk_drew ?_ | refine blk_alloc ?_ _)); refine blk_far ?_ NB173_177.out _; (with_reducible repeat (first | refine blk_drewN ?_ _ | refine blk_drew ?_ | refine blk_alloc ?_ _)); refine blk_far ?_ NB173_177.out _; (with_reducible repeat (first | refine blk_drewN ?_ _ | refine blk_drew ?_ | refine blk_alloc ?_ _)); exact BK173.out) hb); have n2_ := Aside0.mk (blk_below (g := gb177) (o := .cells #[.int .i64 t174, .int .i64 t175] 23 (0, 0)) (by (with_reducible repeat (first | refine blk_drewN ?_ _ | refine blk_drew ?_ | refine blk_alloc ?_ _)); refine blk_put (cs := #[.int .i64 t174, .int .i64 0]) ?_ 1 _ rfl; (with_reducible repeat (first | refine blk_drewN ?_ _ | refine blk_drew ?_ | refine blk_alloc ?_ _)); refine blk_put (cs := #[.int .i64 0, .int .i64 0]) ?_ 0 _ rfl; (with_reducible repeat (first | refine blk_drewN ?_ _ | refine blk_drew ?_ | refine blk_alloc ?_ _)); exact BK177.out) hb); have n3_ := Aside0.mk (below_step (by repeat (first | (with_reducible first | exact HB.out | apply below_alloc | apply pw_below_drewN | apply below_drew1 | refine below_set ?_ GE168.out | refine below_set ?_ GE173.out | refine below_set ?_ GE177.out) | exact HB.out)) hb); clear BK168; clear BK173; clear BK177; clear HB; have BK168 := n0_; have BK173 := n1_; have BK177 := n2_; have HB := n3_; clear n0_ n1_ n2_ n3_; (try clear hb); (try clear hb2); (try clear hk); (try clear hi); have hcz35_0 : w34.cell? ⟨gb168, 0, none⟩ = some (.int .i64 a0_0) := (blk_cell BK168.out 0).trans rfl; have hcz35_1 : w34.cell? ⟨gb168, 1, none⟩ = some (.int .i64 a0_1) := (blk_cell BK168.out 1).trans rfl; have hfz35_0 := blk_frozen BK168.out 0; have hfz35_1 := blk_frozen BK168.out 1) | ((with_reducible refine gate_callee (f := 14) rfl ?_); refine goesL_ (some 36) rfl rfl Tryd.func14 (by kernel_rfl) rfl #[.agg #[.int .i64 a0_0, .int .i64 a0_1]] rfl (by (try simp only [List.map_toArray, List.map_cons, List.map_nil]); first | done | rfl | (simp only [List.length_drop, List.length_take]; rfl)) ?_; (with_reducible refine (assessorref46_Decimal.calls k a0_0 a0_1 t180 t181 _ A9.out).mono ?_); rintro e w36 ⟨rfl, hb⟩; refine ⟨_, rfl, ?_⟩; have n0_ := Aside0.mk (blk_below (g := gb168) (o := .cells #[.int .i64 a0_0, .int .i64 a0_1] 23 (0, 0)) (by (with_reducible repeat (first | refine blk_drewN ?_ _ | refine blk_drew ?_ | refine blk_alloc ?_ _)); exact BK168.out) hb); have n1_ := Aside0.mk (blk_below (g := gb173) (o := .cells #[.int .i64 t170, .int .i64 t171] 23 (0, 0)) (by (with_reducible repeat (first | refine blk_drewN ?_ _ | refine blk_drew ?_ | refine blk_alloc ?_ _)); exact BK173.out) hb); have n2_ := Aside0.mk (blk_below (g := gb177) (o := .cells #[.int .i64 t174, .int .i64 t175] 23 (0, 0)) (by (with_reducible repeat (first | refine blk_drewN ?_ _ | refine blk_drew ?_ | refine blk_alloc ?_ _)); exact BK177.out) hb); have n3_ := Aside0.mk (below_step (by repeat (first | (with_reducible first | exact HB.out | apply below_alloc | apply pw_below_drewN | apply below_drew1 | refine below_set ?_ GE168.out | refine below_set ?_ GE173.out | refine below_set ?_ GE177.out) | exact HB.out)) hb); clear BK168; clear BK173; clear BK177; clear HB; have BK168 := n0_; have BK173 := n1_; have BK177 := n2_; have HB := n3_; clear n0_ n1_ n2_ n3_; (try clear hb); (try clear hb2); (try clear hk); (try clear hi)))
                have n0_ := Aside0.mk (blk_drew BK168.out)
                have n1_ := Aside0.mk (blk_drew BK173.out)
                have n2_ := Aside0.mk (blk_drew BK177.out)
                have n3_ := Aside0.mk (below_drew1 HB.out)
                clear BK168
                clear BK173
                clear BK177
                clear HB
                have BK168 := n0_
                have BK173 := n1_
                have BK177 := n2_
                have HB := n3_
                clear n0_ n1_ n2_ n3_
                refine start_ (n := 40) (S := fun w' => w'.cell? ⟨gb168, 0, none⟩ = some (.int .i64 a0_0) ∧ w'.cell? ⟨gb168, 1, none⟩ = some (.int .i64 a0_1) ∧ w'.cell? ⟨gb173, 0, none⟩ = some (.int .i64 t170) ∧ w'.cell? ⟨gb173, 1, none⟩ = some (.int .i64 t171) ∧ w'.cell? ⟨gb177, 0, none⟩ = some (.int .i64 t174) ∧ w'.cell? ⟨gb177, 1, none⟩ = some (.int .i64 t175)) (ds := []) #[false, false, false, false, false, false, false, false, false, false, false, false, false, false, false, false, false, false, false, false, false, false, false, false, false, false, false, false, false, false, false, false, false, false, false, false, false, false, false, false] (by kernel_rfl) rfl rfl ⟨(blk_cell BK168.out 0).trans rfl, (blk_cell BK168.out 1).trans rfl, (blk_cell BK173.out 0).trans rfl, (blk_cell BK173.out 1).trans rfl, (blk_cell BK177.out 0).trans rfl, (blk_cell BK177.out 1).trans rfl⟩ (fun hHeld => ?_); refine with_tabW assessorlaw46_FractionForms.tab7 assessorlaw46_FractionForms.bits7 (fun HT_ HW_ => ?_)
                generalize w36.drew = w37 at BK168 BK173 BK177 HB hHeld ⊢
                refine take_ (i := 0) (N := some 39) (v := ?_) (a' := ?_) #[true, false, false, false, false, false, false, false, false, false, false, false, false, false, false, false, false, false, false, false, false, false, false, false, false, false, false, false, false, false, false, false, false, false, false, false, false, false, false, false] rfl rfl (take_ofW HT_.out HW_.out (by kernel_rfl)) (fun _ _ _ h => h) (Or.inl ⟨by rfl, ?_⟩) hHeld ?_ ?_
                rotate_left
                · rintro w' ⟨s0, s1, s2, s3, s4, s5⟩
                  go_simp
                  with_reducible rfl
                rotate_left
                · simp only [Act.put, List.setIfInBounds_toArray, List.set_cons_zero, List.set_cons_succ, i64_w, i32_w]
                  rfl
                refine take_ (i := 2) (N := some 41) (v := ?_) (a' := ?_) #[true, false, true, false, false, false, false, false, false, false, false, false, false, false, false, false, false, false, false, false, false, false, false, false, false, false, false, false, false, false, false, false, false, false, false, false, false, false, false, false] rfl rfl (take_ofW HT_.out HW_.out (by kernel_rfl)) (fun _ _ _ h => h) (Or.inl ⟨by rfl, ?_⟩) hHeld ?_ ?_
                rotate_left
                · rintro w' ⟨s0, s1, s2, s3, s4, s5⟩
                  go_simp
                  with_reducible rfl
                rotate_left
                · simp only [Act.put, List.setIfInBounds_toArray, List.set_cons_zero, List.set_cons_succ, i64_w, i32_w]
                  rfl
                refine one_ (i := 1) (N := some 40) #[true, true, true, false, false, false, false, false, false, false, false, false, false, false, false, false, false, false, false, false, false, false, false, false, false, false, false, false, false, false, false, false, false, false, false, false, false, false, false, false] rfl rfl (one_of HT_.out (by kernel_rfl)) (by decide) (fun K hK => ?_)
                refine goes_ Tryd.func15 (by kernel_rfl) rfl #[.agg #[.int .i64 a0_0, .int .i64 a0_1]] (by rfl) rfl rfl (by (try simp only [List.map_toArray, List.map_cons, List.map_nil]); first | done | rfl | (simp only [List.length_drop, List.length_take]; rfl)) ?_
                with_reducible refine (fraction_Valid.calls k a0_0 a0_1 t182 _ A10.out).mono ?_
                rintro e w38 ⟨rfl, hb⟩
                refine ⟨_, rfl, ?_⟩
                have n0_ := Aside0.mk (blk_below (g := gb168) (o := .cells #[.int .i64 a0_0, .int .i64 a0_1] 23 (0, 0)) (by (with_reducible repeat (first | refine blk_drewN ?_ _ | refine blk_drew ?_ | refine blk_alloc ?_ _)); exact BK168.out) hb)
                have n1_ := Aside0.mk (blk_below (g := gb173) (o := .cells #[.int .i64 t170, .int .i64 t171] 23 (0, 0)) (by (with_reducible repeat (first | refine blk_drewN ?_ _ | refine blk_drew ?_ | refine blk_alloc ?_ _)); exact BK173.out) hb)
                have n2_ := Aside0.mk (blk_below (g := gb177) (o := .cells #[.int .i64 t174, .int .i64 t175] 23 (0, 0)) (by (with_reducible repeat (first | refine blk_drewN ?_ _ | refine blk_drew ?_ | refine blk_alloc ?_ _)); exact BK177.out) hb)
                have n3_ := Aside0.mk (below_step (by repeat (first | (with_reducible first | exact HB.out | apply below_alloc | apply pw_below_drewN | apply below_drew1 | refine below_set ?_ GE168.out | refine below_set ?_ GE173.out | refine below_set ?_ GE177.out) | exact HB.out)) hb)
                clear BK168
                clear BK173
                clear BK177
                clear HB
                have BK168 := n0_
                have BK173 := n1_
                have BK177 := n2_
                have HB := n3_
                clear n0_ n1_ n2_ n3_
                (try clear hb)
                (try clear hb2)
                (try clear hk)
                (try clear hi)
                refine hK.out _ _ ⟨(blk_cell BK168.out 0).trans rfl, (blk_cell BK168.out 1).trans rfl, (blk_cell BK173.out 0).trans rfl, (blk_cell BK173.out 1).trans rfl, (blk_cell BK177.out 0).trans rfl, (blk_cell BK177.out 1).trans rfl⟩ (fun hHeld => ?_)
                clear hK K
                refine norm_ (a' := ?_) ?_ ?_
                rotate_left
                · show Act.put _ (some 40) _ = _
                  simp only [Act.put, List.setIfInBounds_toArray, List.set_cons_zero, List.set_cons_succ, i64_w, i32_w]
                  rfl
                refine one_ (i := 3) (N := some 42) #[true, true, true, true, false, false, false, false, false, false, false, false, false, false, false, false, false, false, false, false, false, false, false, false, false, false, false, false, false, false, false, false, false, false, false, false, false, false, false, false] rfl rfl (one_of HT_.out (by kernel_rfl)) (by decide) (fun K hK => ?_)
                refine goes_ Tryd.func16 (by kernel_rfl) rfl #[.agg #[.int .i64 a0_0, .int .i64 a0_1]] (by rfl) rfl rfl (by (try simp only [List.map_toArray, List.map_cons, List.map_nil]); first | done | rfl | (simp only [List.length_drop, List.length_take]; rfl)) ?_
                with_reducible refine (assessorref46_Valid.calls k a0_0 a0_1 t183 _ A11.out).mono ?_
                rintro e w39 ⟨rfl, hb⟩
                refine ⟨_, rfl, ?_⟩
                have n0_ := Aside0.mk (blk_below (g := gb168) (o := .cells #[.int .i64 a0_0, .int .i64 a0_1] 23 (0, 0)) (by (with_reducible repeat (first | refine blk_drewN ?_ _ | refine blk_drew ?_ | refine blk_alloc ?_ _)); exact BK168.out) hb)
                have n1_ := Aside0.mk (blk_below (g := gb173) (o := .cells #[.int .i64 t170, .int .i64 t171] 23 (0, 0)) (by (with_reducible repeat (first | refine blk_drewN ?_ _ | refine blk_drew ?_ | refine blk_alloc ?_ _)); exact BK173.out) hb)
                have n2_ := Aside0.mk (blk_below (g := gb177) (o := .cells #[.int .i64 t174, .int .i64 t175] 23 (0, 0)) (by (with_reducible repeat (first | refine blk_drewN ?_ _ | refine blk_drew ?_ | refine blk_alloc ?_ _)); exact BK177.out) hb)
                have n3_ := Aside0.mk (below_step (by repeat (first | (with_reducible first | exact HB.out | apply below_alloc | apply pw_below_drewN | apply below_drew1 | refine below_set ?_ GE168.out | refine below_set ?_ GE173.out | refine below_set ?_ GE177.out) | exact HB.out)) hb)
                clear BK168
                clear BK173
                clear BK177
                clear HB
                have BK168 := n0_
                have BK173 := n1_
                have BK177 := n2_
                have HB := n3_
                clear n0_ n1_ n2_ n3_
                (try clear hb)
                (try clear hb2)
                (try clear hk)
                (try clear hi)
                refine hK.out _ _ ⟨(blk_cell BK168.out 0).trans rfl, (blk_cell BK168.out 1).trans rfl, (blk_cell BK173.out 0).trans rfl, (blk_cell BK173.out 1).trans rfl, (blk_cell BK177.out 0).trans rfl, (blk_cell BK177.out 1).trans rfl⟩ (fun hHeld => ?_)
                clear hK K
                refine norm_ (a' := ?_) ?_ ?_
                rotate_left
                · show Act.put _ (some 42) _ = _
                  simp only [Act.put, List.setIfInBounds_toArray, List.set_cons_zero, List.set_cons_succ, i64_w, i32_w]
                  rfl
                refine pure_ (i := 4) (N := some 43) (v := ?_) (a' := ?_) #[true, true, true, true, true, false, false, false, false, false, false, false, false, false, false, false, false, false, false, false, false, false, false, false, false, false, false, false, false, false, false, false, false, false, false, false, false, false, false, false] rfl rfl (any_of HT_.out (by kernel_rfl)) (fun _ _ _ h => h) (Or.inl ⟨by rfl, ?_⟩) ?_ ?_
                rotate_left
                · intro w'
                  go_simp
                  with_reducible rfl
                rotate_left
                · simp only [Act.put, List.setIfInBounds_toArray, List.set_cons_zero, List.set_cons_succ, i64_w, i32_w]
                  rfl
                refine pure_ (i := 5) (N := some 44) (v := ?_) (a' := ?_) #[true, true, true, true, true, true, false, false, false, false, false, false, false, false, false, false, false, false, false, false, false, false, false, false, false, false, false, false, false, false, false, false, false, false, false, false, false, false, false, false] rfl rfl (any_of HT_.out (by kernel_rfl)) (fun _ _ _ h => h) (Or.inl ⟨by rfl, ?_⟩) ?_ ?_
                rotate_left
                · intro w'
                  go_simp
                  with_reducible rfl
                rotate_left
                · simp only [Act.put, List.setIfInBounds_toArray, List.set_cons_zero, List.set_cons_succ, i64_w, i32_w]
                  rfl
                refine take_ (i := 6) (N := some 45) (v := ?_) (a' := ?_) #[true, true, true, true, true, true, true, false, false, false, false, false, false, false, false, false, false, false, false, false, false, false, false, false, false, false, false, false, false, false, false, false, false, false, false, false, false, false, false, false] rfl rfl (take_ofW HT_.out HW_.out (by kernel_rfl)) (fun _ _ _ h => h) (Or.inl ⟨by rfl, ?_⟩) hHeld ?_ ?_
                rotate_left
                · rintro w' ⟨s0, s1, s2, s3, s4, s5⟩
                  go_simp
                  with_reducible rfl
                rotate_left
                · simp only [Act.put, List.setIfInBounds_toArray, List.set_cons_zero, List.set_cons_succ, i64_w, i32_w]
                  rfl
                refine take_ (i := 7) (N := some 46) (v := ?_) (a' := ?_) #[true, true, true, true, true, true, true, true, false, false, false, false, false, false, false, false, false, false, false, false, false, false, false, false, false, false, false, false, false, false, false, false, false, false, false, false, false, false, false, false] rfl rfl (take_ofW HT_.out HW_.out (by kernel_rfl)) (fun _ _ _ h => h) (Or.inl ⟨by rfl, ?_⟩) hHeld ?_ ?_
                rotate_left
                · rintro w' ⟨s0, s1, s2, s3, s4, s5⟩
                  go_simp
                  with_reducible rfl
                rotate_left
                · simp only [Act.put, List.setIfInBounds_toArray, List.set_cons_zero, List.set_cons_succ, i64_w, i32_w]
                  rfl
                refine pure_ (i := 8) (N := some 47) (v := ?_) (a' := ?_) #[true, true, true, true, true, true, true, true, true, false, false, false, false, false, false, false, false, false, false, false, false, false, false, false, false, false, false, false, false, false, false, false, false, false, false, false, false, false, false, false] rfl rfl (any_of HT_.out (by kernel_rfl)) (fun _ _ _ h => h) (Or.inl ⟨by rfl, ?_⟩) ?_ ?_
                rotate_left
                · intro w'
                  go_simp
                  with_reducible rfl
                rotate_left
                · simp only [Act.put, List.setIfInBounds_toArray, List.set_cons_zero, List.set_cons_succ, i64_w, i32_w]
                  rfl
                refine pure_ (i := 9) (N := some 48) (v := ?_) (a' := ?_) #[true, true, true, true, true, true, true, true, true, true, false, false, false, false, false, false, false, false, false, false, false, false, false, false, false, false, false, false, false, false, false, false, false, false, false, false, false, false, false, false] rfl rfl (any_of HT_.out (by kernel_rfl)) (fun _ _ _ h => h) (Or.inl ⟨by rfl, ?_⟩) ?_ ?_
                rotate_left
                · intro w'
                  go_simp
                  with_reducible rfl
                rotate_left
                · simp only [Act.put, List.setIfInBounds_toArray, List.set_cons_zero, List.set_cons_succ, i64_w, i32_w]
                  rfl
                refine pure_ (i := 10) (N := some 49) (v := ?_) (a' := ?_) #[true, true, true, true, true, true, true, true, true, true, true, false, false, false, false, false, false, false, false, false, false, false, false, false, false, false, false, false, false, false, false, false, false, false, false, false, false, false, false, false] rfl rfl (any_of HT_.out (by kernel_rfl)) (fun _ _ _ h => h) (Or.inl ⟨by rfl, ?_⟩) ?_ ?_
                rotate_left
                · intro w'
                  go_simp
                  with_reducible rfl
                rotate_left
                · simp only [Act.put, List.setIfInBounds_toArray, List.set_cons_zero, List.set_cons_succ, i64_w, i32_w]
                  rfl
                refine pure_ (i := 11) (N := some 50) (v := ?_) (a' := ?_) #[true, true, true, true, true, true, true, true, true, true, true, true, false, false, false, false, false, false, false, false, false, false, false, false, false, false, false, false, false, false, false, false, false, false, false, false, false, false, false, false] rfl rfl (any_of HT_.out (by kernel_rfl)) (fun _ _ _ h => h) (Or.inl ⟨by rfl, ?_⟩) ?_ ?_
                rotate_left
                · intro w'
                  go_simp
                  with_reducible rfl
                rotate_left
                · simp only [Act.put, List.setIfInBounds_toArray, List.set_cons_zero, List.set_cons_succ, i64_w, i32_w]
                  rfl
                refine pure_ (i := 12) (N := some 51) (v := ?_) (a' := ?_) #[true, true, true, true, true, true, true, true, true, true, true, true, true, false, false, false, false, false, false, false, false, false, false, false, false, false, false, false, false, false, false, false, false, false, false, false, false, false, false, false] rfl rfl (any_of HT_.out (by kernel_rfl)) (fun _ _ _ h => h) (Or.inl ⟨by rfl, ?_⟩) ?_ ?_
                rotate_left
                · intro w'
                  go_simp
                  with_reducible rfl
                rotate_left
                · simp only [Act.put, List.setIfInBounds_toArray, List.set_cons_zero, List.set_cons_succ, i64_w, i32_w]
                  rfl
                refine pure_ (i := 13) (N := some 52) (v := ?_) (a' := ?_) #[true, true, true, true, true, true, true, true, true, true, true, true, true, true, false, false, false, false, false, false, false, false, false, false, false, false, false, false, false, false, false, false, false, false, false, false, false, false, false, false] rfl rfl (any_of HT_.out (by kernel_rfl)) (fun _ _ _ h => h) (Or.inl ⟨by rfl, ?_⟩) ?_ ?_
                rotate_left
                · intro w'
                  go_simp
                  with_reducible rfl
                rotate_left
                · simp only [Act.put, List.setIfInBounds_toArray, List.set_cons_zero, List.set_cons_succ, i64_w, i32_w]
                  rfl
                refine pure_ (i := 14) (N := some 53) (v := ?_) (a' := ?_) #[true, true, true, true, true, true, true, true, true, true, true, true, true, true, true, false, false, false, false, false, false, false, false, false, false, false, false, false, false, false, false, false, false, false, false, false, false, false, false, false] rfl rfl (any_of HT_.out (by kernel_rfl)) (fun _ _ _ h => h) (Or.inl ⟨by rfl, ?_⟩) ?_ ?_
                rotate_left
                · intro w'
                  go_simp
                  with_reducible rfl
                rotate_left
                · simp only [Act.put, List.setIfInBounds_toArray, List.set_cons_zero, List.set_cons_succ, i64_w, i32_w]
                  rfl
                refine pure_ (i := 15) (N := some 54) (v := ?_) (a' := ?_) #[true, true, true, true, true, true, true, true, true, true, true, true, true, true, true, true, false, false, false, false, false, false, false, false, false, false, false, false, false, false, false, false, false, false, false, false, false, false, false, false] rfl rfl (any_of HT_.out (by kernel_rfl)) (fun _ _ _ h => h) (Or.inl ⟨by rfl, ?_⟩) ?_ ?_
                rotate_left
                · intro w'
                  go_simp
                  with_reducible rfl
                rotate_left
                · simp only [Act.put, List.setIfInBounds_toArray, List.set_cons_zero, List.set_cons_succ, i64_w, i32_w]
                  rfl
                refine take_ (i := 16) (N := some 55) (v := ?_) (a' := ?_) #[true, true, true, true, true, true, true, true, true, true, true, true, true, true, true, true, true, false, false, false, false, false, false, false, false, false, false, false, false, false, false, false, false, false, false, false, false, false, false, false] rfl rfl (take_ofW HT_.out HW_.out (by kernel_rfl)) (fun _ _ _ h => h) (Or.inl ⟨by rfl, ?_⟩) hHeld ?_ ?_
                rotate_left
                · rintro w' ⟨s0, s1, s2, s3, s4, s5⟩
                  go_simp
                  with_reducible rfl
                rotate_left
                · simp only [Act.put, List.setIfInBounds_toArray, List.set_cons_zero, List.set_cons_succ, i64_w, i32_w]
                  rfl
                refine take_ (i := 18) (N := some 57) (v := ?_) (a' := ?_) #[true, true, true, true, true, true, true, true, true, true, true, true, true, true, true, true, true, false, true, false, false, false, false, false, false, false, false, false, false, false, false, false, false, false, false, false, false, false, false, false] rfl rfl (take_ofW HT_.out HW_.out (by kernel_rfl)) (fun _ _ _ h => h) (Or.inl ⟨by rfl, ?_⟩) hHeld ?_ ?_
                rotate_left
                · rintro w' ⟨s0, s1, s2, s3, s4, s5⟩
                  go_simp
                  with_reducible rfl
                rotate_left
                · simp only [Act.put, List.setIfInBounds_toArray, List.set_cons_zero, List.set_cons_succ, i64_w, i32_w]
                  rfl
                refine one_ (i := 17) (N := some 56) #[true, true, true, true, true, true, true, true, true, true, true, true, true, true, true, true, true, true, true, false, false, false, false, false, false, false, false, false, false, false, false, false, false, false, false, false, false, false, false, false] rfl rfl (one_of HT_.out (by kernel_rfl)) (by decide) (fun K hK => ?_)
                refine goes_ Tryd.func17 (by kernel_rfl) rfl #[.agg #[.int .i64 a0_0, .int .i64 a0_1]] (by rfl) rfl rfl (by (try simp only [List.map_toArray, List.map_cons, List.map_nil]); first | done | rfl | (simp only [List.length_drop, List.length_take]; rfl)) ?_
                with_reducible refine (fraction_Format.calls k a0_0 a0_1 t184 _ ?side1 A15.out).mono ?_
                (case side1 => exact Tab.below hT_ (by repeat (first | (with_reducible first | exact HB.out | apply below_alloc | apply pw_below_drewN | apply below_drew1 | refine below_set ?_ GE168.out | refine below_set ?_ GE173.out | refine below_set ?_ GE177.out) | exact HB.out)))
                rintro e w40 ⟨rfl, hb⟩
                refine ⟨_, rfl, ?_⟩
                have n0_ := Aside0.mk (blk_below (g := gb168) (o := .cells #[.int .i64 a0_0, .int .i64 a0_1] 23 (0, 0)) (by (with_reducible repeat (first | refine blk_drewN ?_ _ | refine blk_drew ?_ | refine blk_alloc ?_ _)); exact BK168.out) hb)
                have n1_ := Aside0.mk (blk_below (g := gb173) (o := .cells #[.int .i64 t170, .int .i64 t171] 23 (0, 0)) (by (with_reducible repeat (first | refine blk_drewN ?_ _ | refine blk_drew ?_ | refine blk_alloc ?_ _)); exact BK173.out) hb)
                have n2_ := Aside0.mk (blk_below (g := gb177) (o := .cells #[.int .i64 t174, .int .i64 t175] 23 (0, 0)) (by (with_reducible repeat (first | refine blk_drewN ?_ _ | refine blk_drew ?_ | refine blk_alloc ?_ _)); exact BK177.out) hb)
                have n3_ := Aside0.mk (below_step (by repeat (first | (with_reducible first | exact HB.out | apply below_alloc | apply pw_below_drewN | apply below_drew1 | refine below_set ?_ GE168.out | refine below_set ?_ GE173.out | refine below_set ?_ GE177.out) | exact HB.out)) hb)
                clear BK168
                clear BK173
                clear BK177
                clear HB
                have BK168 := n0_
                have BK173 := n1_
                have BK177 := n2_
                have HB := n3_
                clear n0_ n1_ n2_ n3_
                (try clear hb)
                (try clear hb2)
                (try clear hk)
                (try clear hi)
                refine hK.out _ _ ⟨(blk_cell BK168.out 0).trans rfl, (blk_cell BK168.out 1).trans rfl, (blk_cell BK173.out 0).trans rfl, (blk_cell BK173.out 1).trans rfl, (blk_cell BK177.out 0).trans rfl, (blk_cell BK177.out 1).trans rfl⟩ (fun hHeld => ?_)
                clear hK K
                refine norm_ (a' := ?_) ?_ ?_
                rotate_left
                · show Act.put _ (some 56) _ = _
                  simp only [Act.put, List.setIfInBounds_toArray, List.set_cons_zero, List.set_cons_succ, i64_w, i32_w]
                  rfl
                refine one_ (i := 19) (N := some 58) #[true, true, true, true, true, true, true, true, true, true, true, true, true, true, true, true, true, true, true, true, false, false, false, false, false, false, false, false, false, false, false, false, false, false, false, false, false, false, false, false] rfl rfl (one_of HT_.out (by kernel_rfl)) (by decide) (fun K hK => ?_)
                refine goes_ Tryd.func18 (by kernel_rfl) rfl #[.agg #[.int .i64 a0_0, .int .i64 a0_1]] (by rfl) rfl rfl (by (try simp only [List.map_toArray, List.map_cons, List.map_nil]); first | done | rfl | (simp only [List.length_drop, List.length_take]; rfl)) ?_
                with_reducible refine (assessorref46_Format.calls k a0_0 a0_1 t185 _ A16.out).mono ?_
                rintro e w41 ⟨rfl, hb⟩
                refine ⟨_, rfl, ?_⟩
                have n0_ := Aside0.mk (blk_below (g := gb168) (o := .cells #[.int .i64 a0_0, .int .i64 a0_1] 23 (0, 0)) (by (with_reducible repeat (first | refine blk_drewN ?_ _ | refine blk_drew ?_ | refine blk_alloc ?_ _)); exact BK168.out) hb)
                have n1_ := Aside0.mk (blk_below (g := gb173) (o := .cells #[.int .i64 t170, .int .i64 t171] 23 (0, 0)) (by (with_reducible repeat (first | refine blk_drewN ?_ _ | refine blk_drew ?_ | refine blk_alloc ?_ _)); exact BK173.out) hb)
                have n2_ := Aside0.mk (blk_below (g := gb177) (o := .cells #[.int .i64 t174, .int .i64 t175] 23 (0, 0)) (by (with_reducible repeat (first | refine blk_drewN ?_ _ | refine blk_drew ?_ | refine blk_alloc ?_ _)); exact BK177.out) hb)
                have n3_ := Aside0.mk (below_step (by repeat (first | (with_reducible first | exact HB.out | apply below_alloc | apply pw_below_drewN | apply below_drew1 | refine below_set ?_ GE168.out | refine below_set ?_ GE173.out | refine below_set ?_ GE177.out) | exact HB.out)) hb)
                clear BK168
                clear BK173
                clear BK177
                clear HB
                have BK168 := n0_
                have BK173 := n1_
                have BK177 := n2_
                have HB := n3_
                clear n0_ n1_ n2_ n3_
                (try clear hb)
                (try clear hb2)
                (try clear hk)
                (try clear hi)
                refine hK.out _ _ ⟨(blk_cell BK168.out 0).trans rfl, (blk_cell BK168.out 1).trans rfl, (blk_cell BK173.out 0).trans rfl, (blk_cell BK173.out 1).trans rfl, (blk_cell BK177.out 0).trans rfl, (blk_cell BK177.out 1).trans rfl⟩ (fun hHeld => ?_)
                clear hK K
                refine norm_ (a' := ?_) ?_ ?_
                rotate_left
                · show Act.put _ (some 58) _ = _
                  simp only [Act.put, List.setIfInBounds_toArray, List.set_cons_zero, List.set_cons_succ, i64_w, i32_w]
                  rfl
                refine pure_ (i := 20) (N := some 59) (v := ?_) (a' := ?_) #[true, true, true, true, true, true, true, true, true, true, true, true, true, true, true, true, true, true, true, true, true, false, false, false, false, false, false, false, false, false, false, false, false, false, false, false, false, false, false, false] rfl rfl (any_of HT_.out (by kernel_rfl)) (fun _ _ _ h => h) (Or.inl ⟨by rfl, ?_⟩) ?_ ?_
                rotate_left
                · intro w'
                  go_simp
                  with_reducible rfl
                rotate_left
                · simp only [Act.put, List.setIfInBounds_toArray, List.set_cons_zero, List.set_cons_succ, i64_w, i32_w]
                  rfl
                refine pure_ (i := 21) (N := some 60) (v := ?_) (a' := ?_) #[true, true, true, true, true, true, true, true, true, true, true, true, true, true, true, true, true, true, true, true, true, true, false, false, false, false, false, false, false, false, false, false, false, false, false, false, false, false, false, false] rfl rfl (any_of HT_.out (by kernel_rfl)) (fun _ _ _ h => h) (Or.inl ⟨by rfl, ?_⟩) ?_ ?_
                rotate_left
                · intro w'
                  go_simp
                  with_reducible rfl
                rotate_left
                · simp only [Act.put, List.setIfInBounds_toArray, List.set_cons_zero, List.set_cons_succ, i64_w, i32_w]
                  rfl
                refine pure_ (i := 22) (N := some 61) (v := ?_) (a' := ?_) #[true, true, true, true, true, true, true, true, true, true, true, true, true, true, true, true, true, true, true, true, true, true, true, false, false, false, false, false, false, false, false, false, false, false, false, false, false, false, false, false] rfl rfl (any_of HT_.out (by kernel_rfl)) (fun _ _ _ h => h) (Or.inl ⟨by rfl, ?_⟩) ?_ ?_
                rotate_left
                · intro w'
                  go_simp
                  with_reducible rfl
                rotate_left
                · simp only [Act.put, List.setIfInBounds_toArray, List.set_cons_zero, List.set_cons_succ, i64_w, i32_w]
                  rfl
                refine pure_ (i := 23) (N := some 62) (v := ?_) (a' := ?_) #[true, true, true, true, true, true, true, true, true, true, true, true, true, true, true, true, true, true, true, true, true, true, true, true, false, false, false, false, false, false, false, false, false, false, false, false, false, false, false, false] rfl rfl (any_of HT_.out (by kernel_rfl)) (fun _ _ _ h => h) (Or.inl ⟨by rfl, ?_⟩) ?_ ?_
                rotate_left
                · intro w'
                  go_simp
                  with_reducible rfl
                rotate_left
                · simp only [Act.put, List.setIfInBounds_toArray, List.set_cons_zero, List.set_cons_succ, i64_w, i32_w]
                  rfl
                refine pure_ (i := 24) (N := some 63) (v := ?_) (a' := ?_) #[true, true, true, true, true, true, true, true, true, true, true, true, true, true, true, true, true, true, true, true, true, true, true, true, true, false, false, false, false, false, false, false, false, false, false, false, false, false, false, false] rfl rfl (any_of HT_.out (by kernel_rfl)) (fun _ _ _ h => h) (Or.inl ⟨by rfl, ?_⟩) ?_ ?_
                rotate_left
                · intro w'
                  go_simp
                  with_reducible rfl
                rotate_left
                · simp only [Act.put, List.setIfInBounds_toArray, List.set_cons_zero, List.set_cons_succ, i64_w, i32_w]
                  rfl
                refine pure_ (i := 25) (N := some 64) (v := ?_) (a' := ?_) #[true, true, true, true, true, true, true, true, true, true, true, true, true, true, true, true, true, true, true, true, true, true, true, true, true, true, false, false, false, false, false, false, false, false, false, false, false, false, false, false] rfl rfl (any_of HT_.out (by kernel_rfl)) (fun _ _ _ h => h) (Or.inl ⟨by rfl, ?_⟩) ?_ ?_
                rotate_left
                · intro w'
                  go_simp
                  with_reducible rfl
                rotate_left
                · simp only [Act.put, List.setIfInBounds_toArray, List.set_cons_zero, List.set_cons_succ, i64_w, i32_w]
                  rfl
                refine pure_ (i := 26) (N := some 65) (v := ?_) (a' := ?_) #[true, true, true, true, true, true, true, true, true, true, true, true, true, true, true, true, true, true, true, true, true, true, true, true, true, true, true, false, false, false, false, false, false, false, false, false, false, false, false, false] rfl rfl (any_of HT_.out (by kernel_rfl)) (fun _ _ _ h => h) (Or.inl ⟨by rfl, ?_⟩) ?_ ?_
                rotate_left
                · intro w'
                  go_simp
                  with_reducible rfl
                rotate_left
                · simp only [Act.put, List.setIfInBounds_toArray, List.set_cons_zero, List.set_cons_succ, i64_w, i32_w]
                  rfl
                refine pure_ (i := 27) (N := some 66) (v := ?_) (a' := ?_) #[true, true, true, true, true, true, true, true, true, true, true, true, true, true, true, true, true, true, true, true, true, true, true, true, true, true, true, true, false, false, false, false, false, false, false, false, false, false, false, false] rfl rfl (any_of HT_.out (by kernel_rfl)) (fun _ _ _ h => h) (Or.inl ⟨by rfl, ?_⟩) ?_ ?_
                rotate_left
                · intro w'
                  go_simp
                  with_reducible rfl
                rotate_left
                · simp only [Act.put, List.setIfInBounds_toArray, List.set_cons_zero, List.set_cons_succ, i64_w, i32_w]
                  rfl
                refine pure_ (i := 28) (N := some 67) (v := ?_) (a' := ?_) #[true, true, true, true, true, true, true, true, true, true, true, true, true, true, true, true, true, true, true, true, true, true, true, true, true, true, true, true, true, false, false, false, false, false, false, false, false, false, false, false] rfl rfl (any_of HT_.out (by kernel_rfl)) (fun _ _ _ h => h) (Or.inl ⟨by rfl, ?_⟩) ?_ ?_
                rotate_left
                · intro w'
                  go_simp
                  with_reducible rfl
                rotate_left
                · simp only [Act.put, List.setIfInBounds_toArray, List.set_cons_zero, List.set_cons_succ, i64_w, i32_w]
                  rfl
                refine pure_ (i := 29) (N := some 68) (v := ?_) (a' := ?_) #[true, true, true, true, true, true, true, true, true, true, true, true, true, true, true, true, true, true, true, true, true, true, true, true, true, true, true, true, true, true, false, false, false, false, false, false, false, false, false, false] rfl rfl (any_of HT_.out (by kernel_rfl)) (fun _ _ _ h => h) (Or.inl ⟨by rfl, ?_⟩) ?_ ?_
                rotate_left
                · intro w'
                  go_simp
                  with_reducible rfl
                rotate_left
                · simp only [Act.put, List.setIfInBounds_toArray, List.set_cons_zero, List.set_cons_succ, i64_w, i32_w]
                  rfl
                refine pure_ (i := 30) (N := some 69) (v := ?_) (a' := ?_) #[true, true, true, true, true, true, true, true, true, true, true, true, true, true, true, true, true, true, true, true, true, true, true, true, true, true, true, true, true, true, true, false, false, false, false, false, false, false, false, false] rfl rfl (any_of HT_.out (by kernel_rfl)) (fun _ _ _ h => h) (Or.inl ⟨by rfl, ?_⟩) ?_ ?_
                rotate_left
                · intro w'
                  go_simp
                  with_reducible rfl
                rotate_left
                · simp only [Act.put, List.setIfInBounds_toArray, List.set_cons_zero, List.set_cons_succ, i64_w, i32_w]
                  rfl
                refine pure_ (i := 31) (N := some 70) (v := ?_) (a' := ?_) #[true, true, true, true, true, true, true, true, true, true, true, true, true, true, true, true, true, true, true, true, true, true, true, true, true, true, true, true, true, true, true, true, false, false, false, false, false, false, false, false] rfl rfl (any_of HT_.out (by kernel_rfl)) (fun _ _ _ h => h) (Or.inl ⟨by rfl, ?_⟩) ?_ ?_
                rotate_left
                · intro w'
                  go_simp
                  with_reducible rfl
                rotate_left
                · simp only [Act.put, List.setIfInBounds_toArray, List.set_cons_zero, List.set_cons_succ, i64_w, i32_w]
                  rfl
                refine pure_ (i := 32) (N := some 71) (v := ?_) (a' := ?_) #[true, true, true, true, true, true, true, true, true, true, true, true, true, true, true, true, true, true, true, true, true, true, true, true, true, true, true, true, true, true, true, true, true, false, false, false, false, false, false, false] rfl rfl (any_of HT_.out (by kernel_rfl)) (fun _ _ _ h => h) (Or.inl ⟨by rfl, ?_⟩) ?_ ?_
                rotate_left
                · intro w'
                  go_simp
                  with_reducible rfl
                rotate_left
                · simp only [Act.put, List.setIfInBounds_toArray, List.set_cons_zero, List.set_cons_succ, i64_w, i32_w]
                  rfl
                refine pure_ (i := 33) (N := some 72) (v := ?_) (a' := ?_) #[true, true, true, true, true, true, true, true, true, true, true, true, true, true, true, true, true, true, true, true, true, true, true, true, true, true, true, true, true, true, true, true, true, true, false, false, false, false, false, false] rfl rfl (any_of HT_.out (by kernel_rfl)) (fun _ _ _ h => h) (Or.inl ⟨by rfl, ?_⟩) ?_ ?_
                rotate_left
                · intro w'
                  go_simp
                  with_reducible rfl
                rotate_left
                · simp only [Act.put, List.setIfInBounds_toArray, List.set_cons_zero, List.set_cons_succ, i64_w, i32_w]
                  rfl
                refine pure_ (i := 35) (N := some 74) (v := ?_) (a' := ?_) #[true, true, true, true, true, true, true, true, true, true, true, true, true, true, true, true, true, true, true, true, true, true, true, true, true, true, true, true, true, true, true, true, true, true, false, true, false, false, false, false] rfl rfl (any_of HT_.out (by kernel_rfl)) (fun _ _ _ h => h) (Or.inl ⟨by rfl, ?_⟩) ?_ ?_
                rotate_left
                · intro w'
                  go_simp
                  with_reducible rfl
                rotate_left
                · simp only [Act.put, List.setIfInBounds_toArray, List.set_cons_zero, List.set_cons_succ, i64_w, i32_w]
                  rfl
                refine one_ (i := 34) (N := some 73) #[true, true, true, true, true, true, true, true, true, true, true, true, true, true, true, true, true, true, true, true, true, true, true, true, true, true, true, true, true, true, true, true, true, true, true, true, false, false, false, false] rfl rfl (one_of HT_.out (by kernel_rfl)) (by decide) (fun K hK => ?_)
                refine goes_ Tryd.func19 (by kernel_rfl) rfl #[.int .i64 a1] (by rfl) rfl rfl (by (try simp only [List.map_toArray, List.map_cons, List.map_nil]); first | done | rfl | (simp only [List.length_drop, List.length_take]; rfl)) ?_
                with_reducible refine (fraction_Points.calls k a1 t186 _ ?side1 A20.out).mono ?_
                (case side1 => exact Tab.below hT_ (by repeat (first | (with_reducible first | exact HB.out | apply below_alloc | apply pw_below_drewN | apply below_drew1 | refine below_set ?_ GE168.out | refine below_set ?_ GE173.out | refine below_set ?_ GE177.out) | exact HB.out)))
                rintro e w42 ⟨rfl, hb⟩
                refine ⟨_, rfl, ?_⟩
                have n0_ := Aside0.mk (blk_below (g := gb168) (o := .cells #[.int .i64 a0_0, .int .i64 a0_1] 23 (0, 0)) (by (with_reducible repeat (first | refine blk_drewN ?_ _ | refine blk_drew ?_ | refine blk_alloc ?_ _)); exact BK168.out) hb)
                have n1_ := Aside0.mk (blk_below (g := gb173) (o := .cells #[.int .i64 t170, .int .i64 t171] 23 (0, 0)) (by (with_reducible repeat (first | refine blk_drewN ?_ _ | refine blk_drew ?_ | refine blk_alloc ?_ _)); exact BK173.out) hb)
                have n2_ := Aside0.mk (blk_below (g := gb177) (o := .cells #[.int .i64 t174, .int .i64 t175] 23 (0, 0)) (by (with_reducible repeat (first | refine blk_drewN ?_ _ | refine blk_drew ?_ | refine blk_alloc ?_ _)); exact BK177.out) hb)
                have n3_ := Aside0.mk (below_step (by repeat (first | (with_reducible first | exact HB.out | apply below_alloc | apply pw_below_drewN | apply below_drew1 | refine below_set ?_ GE168.out | refine below_set ?_ GE173.out | refine below_set ?_ GE177.out) | exact HB.out)) hb)
                clear BK168
                clear BK173
                clear BK177
                clear HB
                have BK168 := n0_
                have BK173 := n1_
                have BK177 := n2_
                have HB := n3_
                clear n0_ n1_ n2_ n3_
                (try clear hb)
                (try clear hb2)
                (try clear hk)
                (try clear hi)
                refine hK.out _ _ ⟨(blk_cell BK168.out 0).trans rfl, (blk_cell BK168.out 1).trans rfl, (blk_cell BK173.out 0).trans rfl, (blk_cell BK173.out 1).trans rfl, (blk_cell BK177.out 0).trans rfl, (blk_cell BK177.out 1).trans rfl⟩ (fun hHeld => ?_)
                clear hK K
                refine norm_ (a' := ?_) ?_ ?_
                rotate_left
                · show Act.put _ (some 73) _ = _
                  simp only [Act.put, List.setIfInBounds_toArray, List.set_cons_zero, List.set_cons_succ, i64_w, i32_w]
                  rfl
                refine one_ (i := 36) (N := some 75) #[true, true, true, true, true, true, true, true, true, true, true, true, true, true, true, true, true, true, true, true, true, true, true, true, true, true, true, true, true, true, true, true, true, true, true, true, true, false, false, false] rfl rfl (one_of HT_.out (by kernel_rfl)) (by decide) (fun K hK => ?_)
                refine goes_ Tryd.func20 (by kernel_rfl) rfl #[.int .i64 a1] (by rfl) rfl rfl (by (try simp only [List.map_toArray, List.map_cons, List.map_nil]); first | done | rfl | (simp only [List.length_drop, List.length_take]; rfl)) ?_
                with_reducible refine (assessorref46_Points.calls k a1 t187 _ A21.out).mono ?_
                rintro e w43 ⟨rfl, hb⟩
                refine ⟨_, rfl, ?_⟩
                have n0_ := Aside0.mk (blk_below (g := gb168) (o := .cells #[.int .i64 a0_0, .int .i64 a0_1] 23 (0, 0)) (by (with_reducible repeat (first | refine blk_drewN ?_ _ | refine blk_drew ?_ | refine blk_alloc ?_ _)); exact BK168.out) hb)
                have n1_ := Aside0.mk (blk_below (g := gb173) (o := .cells #[.int .i64 t170, .int .i64 t171] 23 (0, 0)) (by (with_reducible repeat (first | refine blk_drewN ?_ _ | refine blk_drew ?_ | refine blk_alloc ?_ _)); exact BK173.out) hb)
                have n2_ := Aside0.mk (blk_below (g := gb177) (o := .cells #[.int .i64 t174, .int .i64 t175] 23 (0, 0)) (by (with_reducible repeat (first | refine blk_drewN ?_ _ | refine blk_drew ?_ | refine blk_alloc ?_ _)); exact BK177.out) hb)
                have n3_ := Aside0.mk (below_step (by repeat (first | (with_reducible first | exact HB.out | apply below_alloc | apply pw_below_drewN | apply below_drew1 | refine below_set ?_ GE168.out | refine below_set ?_ GE173.out | refine below_set ?_ GE177.out) | exact HB.out)) hb)
                clear BK168
                clear BK173
                clear BK177
                clear HB
                have BK168 := n0_
                have BK173 := n1_
                have BK177 := n2_
                have HB := n3_
                clear n0_ n1_ n2_ n3_
                (try clear hb)
                (try clear hb2)
                (try clear hk)
                (try clear hi)
                refine hK.out _ _ ⟨(blk_cell BK168.out 0).trans rfl, (blk_cell BK168.out 1).trans rfl, (blk_cell BK173.out 0).trans rfl, (blk_cell BK173.out 1).trans rfl, (blk_cell BK177.out 0).trans rfl, (blk_cell BK177.out 1).trans rfl⟩ (fun hHeld => ?_)
                clear hK K
                refine norm_ (a' := ?_) ?_ ?_
                rotate_left
                · show Act.put _ (some 75) _ = _
                  simp only [Act.put, List.setIfInBounds_toArray, List.set_cons_zero, List.set_cons_succ, i64_w, i32_w]
                  rfl
                refine pure_ (i := 37) (N := some 76) (v := ?_) (a' := ?_) #[true, true, true, true, true, true, true, true, true, true, true, true, true, true, true, true, true, true, true, true, true, true, true, true, true, true, true, true, true, true, true, true, true, true, true, true, true, true, false, false] rfl rfl (any_of HT_.out (by kernel_rfl)) (fun _ _ _ h => h) (Or.inl ⟨by rfl, ?_⟩) ?_ ?_
                rotate_left
                · intro w'
                  go_simp
                  with_reducible rfl
                rotate_left
                · simp only [Act.put, List.setIfInBounds_toArray, List.set_cons_zero, List.set_cons_succ, i64_w, i32_w]
                  rfl
                refine pure_ (i := 38) (N := some 77) (v := ?_) (a' := ?_) #[true, true, true, true, true, true, true, true, true, true, true, true, true, true, true, true, true, true, true, true, true, true, true, true, true, true, true, true, true, true, true, true, true, true, true, true, true, true, true, false] rfl rfl (any_of HT_.out (by kernel_rfl)) (fun _ _ _ h => h) (Or.inl ⟨by rfl, ?_⟩) ?_ ?_
                rotate_left
                · intro w'
                  go_simp
                  with_reducible rfl
                rotate_left
                · simp only [Act.put, List.setIfInBounds_toArray, List.set_cons_zero, List.set_cons_succ, i64_w, i32_w]
                  rfl
                refine pure_ (i := 39) (N := some 6) (v := ?_) (a' := ?_) #[true, true, true, true, true, true, true, true, true, true, true, true, true, true, true, true, true, true, true, true, true, true, true, true, true, true, true, true, true, true, true, true, true, true, true, true, true, true, true, true] rfl rfl (any_of HT_.out (by kernel_rfl)) (fun _ _ _ h => h) (Or.inl ⟨by rfl, ?_⟩) ?_ ?_
                rotate_left
                · intro w'
                  go_simp
                  with_reducible rfl
                rotate_left
                · simp only [Act.put, List.setIfInBounds_toArray, List.set_cons_zero, List.set_cons_succ, i64_w, i32_w]
                  rfl
                refine done_ (done_of HT_.out (by kernel_rfl)) ?_
                try go_wp2
                go_ret
                exact ⟨by first | rfl | (simp [errW_none, errW_some] <;> rfl) | (simp [*, errW_none, errW_some] <;> rfl), by repeat (first | (with_reducible first | exact HB.out | apply below_alloc | apply pw_below_drewN | apply below_drew1 | refine below_set ?_ GE168.out | refine below_set ?_ GE173.out | refine below_set ?_ GE177.out) | exact HB.out)⟩
              · rw [if_neg c19] at H
                have c19b0 : (t179 == t181) = false := by simpa using c19
                (try (have c19b1 : decide (t179 = t181) = false := by simpa using c19))
                (try (have c19b2 : (t179 == t181) = false := by simpa using c19))
                (try (have c19b3 : ¬ (t179 = t181) := by simpa using c19))
                clear c19
                obtain rfl := Option.some.inj H
                exact absurd hr_.out (by simp)
            · rw [if_neg c18] at H
              have c18b0 : (t178.toList == t180.toList) = false := beq_eq_false_iff_ne.mpr c18
              have c18b1 : (t178.toList != t180.toList) = true := bne_iff_ne.mpr c18
              obtain rfl := Option.some.inj H
              exact absurd hr_.out (by simp)
          · rw [if_neg c17] at H
            have c17b0 : (t184.toList == t185.toList) = false := beq_eq_false_iff_ne.mpr c17
            have c17b1 : (t184.toList != t185.toList) = true := bne_iff_ne.mpr c17
            obtain rfl := Option.some.inj H
            exact absurd hr_.out (by simp)
        · rw [if_neg c14] at H
          have c14b0 : (t172 == t176) = false := beq_eq_false_iff_ne.mpr c14
          have c14b1 : (t172 != t176) = true := bne_iff_ne.mpr c14
          obtain rfl := Option.some.inj H
          exact absurd hr_.out (by simp)
      · rw [if_neg c13] at H
        have c13b0 : (t170 == t174 && (t171 == t175)) = false := by simpa using c13
        (try (have c13b1 : decide (t170 = t174 && (t171 == t175)) = false := by simpa using c13))
        (try (have c13b2 : (t170 == t174 && (t171 == t175)) = false := by simpa using c13))
        (try (have c13b3 : ¬ (t170 = t174 && (t171 == t175)) := by simpa using c13))
        clear c13
        obtain rfl := Option.some.inj H
        exact absurd hr_.out (by simp)
    · rw [if_neg c12] at H
      have c12b0 : (t182 == t183) = false := by simpa using c12
      (try (have c12b1 : decide (t182 = t183) = false := by simpa using c12))
      (try (have c12b2 : (t182 == t183) = false := by simpa using c12))
      (try (have c12b3 : ¬ (t182 = t183) := by simpa using c12))
      clear c12
      obtain rfl := Option.some.inj H
      exact absurd hr_.out (by simp)
  · replace c5 := Bool.eq_false_iff.mpr c5
    subst c5
    have H1 : (some false) = some r := by rw [if_neg (show ¬ (false = true) by decide)] at H; exact H
    clear H
    have H := H1
    clear H1
    obtain rfl := Option.some.inj H
    exact absurd hr_.out (by simp)

end Go.Proofs.YtkfibjmjamdigaaDoor.Q
-- Written by wip/myprint.py (a program of this repo's own) out of the translation.
namespace Go.Proofs.YtkfibjmjamdigaaDoor.Q
open Go.RowKit Go.Proofs.YtkfibjmjamdigaaDoorW.PrintWords Go.Proofs.YtkfibjmjamdigaaDoorW.PrintLast Go.Proofs.YtkfibjmjamdigaaDoorW.PrintMore
attribute [local go_sem] max2_int min2_int max_two min_two max_three min_three max_four min_four   -- for this text's walks alone
set_option linter.unusedVariables false
set_option linter.unusedSimpArgs false

/-! ### cmp_isNaN_int: function 66 -/
def cmp_isNaN_int.f (a0 : Int) : Option (Bool) := some (a0 != a0)
set_option maxHeartbeats 8000000 in
set_option maxRecDepth 100000 in
theorem cmp_isNaN_int.calls (a0 : Int) (r : Bool) (w : World) (h : cmp_isNaN_int.f a0 = some r) :
    Calls Tryd.prog 66 #[.int .i64 a0] w fun e w' => e = .returned (.bool r) ∧ Drawn0 w w' := by
  have H : (some (a0 != a0)) = some r := h
  clear h
  obtain rfl := Option.some.inj H
  simp only [Option.some.injEq, Prod.mk.injEq] at H
  obtain ⟨rfl⟩ := H
  go_enter Tryd.func66, Tryd.ntmps66
  go_wp2
  go_ret
  exact ⟨by first | rfl | (simp; done) | (simp [*]; done), by repeat (first | exact Drawn0.refl _ | apply Drawn0.step)⟩

end Go.Proofs.YtkfibjmjamdigaaDoor.Q
-- Written by wip/myprint.py (a program of this repo's own) out of the translation.
namespace Go.Proofs.YtkfibjmjamdigaaDoor.Q
open Go.RowKit Go.Proofs.YtkfibjmjamdigaaDoorW.PrintWords Go.Proofs.YtkfibjmjamdigaaDoorW.PrintLast Go.Proofs.YtkfibjmjamdigaaDoorW.PrintMore
attribute [local go_sem] max2_int min2_int max_two min_two max_three min_three max_four min_four   -- for this text's walks alone
set_option linter.unusedVariables false
set_option linter.unusedSimpArgs false

/-! ### cmp_Compare_int: function 57 -/
def cmp_Compare_int.f (a0 : Int) (a1 : Int) : Option (Int) := (cmp_isNaN_int.f a0).bind fun t235 => ((cmp_isNaN_int.f a1).bind fun t236 => (if t235 = true then (if t236 = true then (some 0) else (some (-1))) else (if t236 = true then (some 1) else (if a0 < a1 then (some (-1)) else (if a0 > a1 then (some 1) else (some 0))))))
set_option maxHeartbeats 8000000 in
set_option maxRecDepth 100000 in
theorem cmp_Compare_int.calls (a0 : Int) (a1 : Int) (r : Int) (w : World) (h : cmp_Compare_int.f a0 a1 = some r) :
    Calls Tryd.prog 57 #[.int .i64 a0, .int .i64 a1] w fun e w' => e = .returned (.int .i64 r) ∧ Drawn0 w w' := by
  have H : ((cmp_isNaN_int.f a0).bind fun t235 => ((cmp_isNaN_int.f a1).bind fun t236 => (if t235 = true then (if t236 = true then (some 0) else (some (-1))) else (if t236 = true then (some 1) else (if a0 < a1 then (some (-1)) else (if a0 > a1 then (some 1) else (some 0))))))) = some r := h
  clear h
  replace H := Option.bind_eq_some_iff.mp H
  obtain ⟨t235, A30, H⟩ := H
  replace H : ((cmp_isNaN_int.f a1).bind fun t236 => (if t235 = true then (if t236 = true then (some 0) else (some (-1))) else (if t236 = true then (some 1) else (if a0 < a1 then (some (-1)) else (if a0 > a1 then (some 1) else (some 0)))))) = some r := H
  have A3 := Aside0.mk A30
  clear A30
  replace H := Option.bind_eq_some_iff.mp H
  obtain ⟨t236, A40, H⟩ := H
  replace H : (if t235 = true then (if t236 = true then (some 0) else (some (-1))) else (if t236 = true then (some 1) else (if a0 < a1 then (some (-1)) else (if a0 > a1 then (some 1) else (some 0))))) = some r := H
  have A4 := Aside0.mk A40
  clear A40
  by_cases c5 : t235 = true
  · subst c5
    have H1 : (if t236 = true then (some 0) else (some (-1))) = some r := by rw [if_pos rfl] at H; exact H
    clear H
    have H := H1
    clear H1
    by_cases c6 : t236 = true
    · subst c6
      have H1 : (some 0) = some r := by rw [if_pos rfl] at H; exact H
      clear H
      have H := H1
      clear H1
      obtain rfl := Option.some.inj H
      simp only [Option.some.injEq, Prod.mk.injEq] at H
      obtain ⟨rfl⟩ := H
      go_enter Tryd.func57, Tryd.ntmps57
      go_wp2_with (first | ((with_reducible refine gate_callee (f := 66) rfl ?_); refine goesL_ (some 8) rfl rfl Tryd.func66 (by kernel_rfl) rfl #[.int .i64 a0] rfl (by (try simp only [List.map_toArray, List.map_cons, List.map_nil]); first | done | rfl | (simp only [List.length_drop, List.length_take]; rfl)) ?_; (with_reducible refine (cmp_isNaN_int.calls a0 true _ A3.out).mono ?_); rintro e w' ⟨rfl, ⟨nd, rfl⟩⟩; refine ⟨_, rfl, ?_⟩) | ((with_reducible refine gate_callee (f := 66) rfl ?_); refine goesL_ (some 10) rfl rfl Tryd.func66 (by kernel_rfl) rfl #[.int .i64 a1] rfl (by (try simp only [List.map_toArray, List.map_cons, List.map_nil]); first | done | rfl | (simp only [List.length_drop, List.length_take]; rfl)) ?_; (with_reducible refine (cmp_isNaN_int.calls a1 true _ A4.out).mono ?_); rintro e w' ⟨rfl, ⟨nd, rfl⟩⟩; refine ⟨_, rfl, ?_⟩))
      go_ret
      exact ⟨by first | rfl | (simp; done) | (simp [*]; done), by repeat (first | exact Drawn0.refl _ | apply Drawn0.step)⟩
    · replace c6 := Bool.eq_false_iff.mpr c6
      subst c6
      have H1 : (some (-1)) = some r := by rw [if_neg (show ¬ (false = true) by decide)] at H; exact H
      clear H
      have H := H1
      clear H1
      obtain rfl := Option.some.inj H
      simp only [Option.some.injEq, Prod.mk.injEq] at H
      obtain ⟨rfl⟩ := H
      go_enter Tryd.func57, Tryd.ntmps57
      go_wp2_with (first | ((with_reducible refine gate_callee (f := 66) rfl ?_); refine goesL_ (some 8) rfl rfl Tryd.func66 (by kernel_rfl) rfl #[.int .i64 a0] rfl (by (try simp only [List.map_toArray, List.map_cons, List.map_nil]); first | done | rfl | (simp only [List.length_drop, List.length_take]; rfl)) ?_; (with_reducible refine (cmp_isNaN_int.calls a0 true _ A3.out).mono ?_); rintro e w' ⟨rfl, ⟨nd, rfl⟩⟩; refine ⟨_, rfl, ?_⟩) | ((with_reducible refine gate_callee (f := 66) rfl ?_); refine goesL_ (some 10) rfl rfl Tryd.func66 (by kernel_rfl) rfl #[.int .i64 a1] rfl (by (try simp only [List.map_toArray, List.map_cons, List.map_nil]); first | done | rfl | (simp only [List.length_drop, List.length_take]; rfl)) ?_; (with_reducible refine (cmp_isNaN_int.calls a1 false _ A4.out).mono ?_); rintro e w' ⟨rfl, ⟨nd, rfl⟩⟩; refine ⟨_, rfl, ?_⟩))
      go_ret
      exact ⟨by first | rfl | (simp; done) | (simp [*]; done), by repeat (first | exact Drawn0.refl _ | apply Drawn0.step)⟩
  · replace c5 := Bool.eq_false_iff.mpr c5
    subst c5
    have H1 : (if t236 = true then (some 1) else (if a0 < a1 then (some (-1)) else (if a0 > a1 then (some 1) else (some 0)))) = some r := by rw [if_neg (show ¬ (false = true) by decide)] at H; exact H
    clear H
    have H := H1
    clear H1
    by_cases c7 : t236 = true
    · subst c7
      have H1 : (some 1) = some r := by rw [if_pos rfl] at H; exact H
      clear H
      have H := H1
      clear H1
      obtain rfl := Option.some.inj H
      simp only [Option.some.injEq, Prod.mk.injEq] at H
      obtain ⟨rfl⟩ := H
      go_enter Tryd.func57, Tryd.ntmps57
      go_wp2_with (first | ((with_reducible refine gate_callee (f := 66) rfl ?_); refine goesL_ (some 8) rfl rfl Tryd.func66 (by kernel_rfl) rfl #[.int .i64 a0] rfl (by (try simp only [List.map_toArray, List.map_cons, List.map_nil]); first | done | rfl | (simp only [List.length_drop, List.length_take]; rfl)) ?_; (with_reducible refine (cmp_isNaN_int.calls a0 false _ A3.out).mono ?_); rintro e w' ⟨rfl, ⟨nd, rfl⟩⟩; refine ⟨_, rfl, ?_⟩) | ((with_reducible refine gate_callee (f := 66) rfl ?_); refine goesL_ (some 10) rfl rfl Tryd.func66 (by kernel_rfl) rfl #[.int .i64 a1] rfl (by (try simp only [List.map_toArray, List.map_cons, List.map_nil]); first | done | rfl | (simp only [List.length_drop, List.length_take]; rfl)) ?_; (with_reducible refine (cmp_isNaN_int.calls a1 true _ A4.out).mono ?_); rintro e w' ⟨rfl, ⟨nd, rfl⟩⟩; refine ⟨_, rfl, ?_⟩))
      go_ret
      exact ⟨by first | rfl | (simp; done) | (simp [*]; done), by repeat (first | exact Drawn0.refl _ | apply Drawn0.step)⟩
    · replace c7 := Bool.eq_false_iff.mpr c7
      subst c7
      have H1 : (if a0 < a1 then (some (-1)) else (if a0 > a1 then (some 1) else (some 0))) = some r := by rw [if_neg (show ¬ (false = true) by decide)] at H; exact H
      clear H
      have H := H1
      clear H1
      by_cases c8 : a0 < a1
      · rw [if_pos c8] at H
        have c8b0 : decide (a0 < a1) = true := decide_eq_true c8
        clear c8
        obtain rfl := Option.some.inj H
        simp only [Option.some.injEq, Prod.mk.injEq] at H
        obtain ⟨rfl⟩ := H
        go_enter Tryd.func57, Tryd.ntmps57
        go_wp2_with (first | ((with_reducible refine gate_callee (f := 66) rfl ?_); refine goesL_ (some 8) rfl rfl Tryd.func66 (by kernel_rfl) rfl #[.int .i64 a0] rfl (by (try simp only [List.map_toArray, List.map_cons, List.map_nil]); first | done | rfl | (simp only [List.length_drop, List.length_take]; rfl)) ?_; (with_reducible refine (cmp_isNaN_int.calls a0 false _ A3.out).mono ?_); rintro e w' ⟨rfl, ⟨nd, rfl⟩⟩; refine ⟨_, rfl, ?_⟩) | ((with_reducible refine gate_callee (f := 66) rfl ?_); refine goesL_ (some 10) rfl rfl Tryd.func66 (by kernel_rfl) rfl #[.int .i64 a1] rfl (by (try simp only [List.map_toArray, List.map_cons, List.map_nil]); first | done | rfl | (simp only [List.length_drop, List.length_take]; rfl)) ?_; (with_reducible refine (cmp_isNaN_int.calls a1 false _ A4.out).mono ?_); rintro e w' ⟨rfl, ⟨nd, rfl⟩⟩; refine ⟨_, rfl, ?_⟩))
        go_ret
        exact ⟨by first | rfl | (simp; done) | (simp [*]; done), by repeat (first | exact Drawn0.refl _ | apply Drawn0.step)⟩
      · rw [if_neg c8] at H
        have c8b0 : decide (a0 < a1) = false := decide_eq_false c8
        clear c8
        by_cases c9 : a0 > a1
        · rw [if_pos c9] at H
          have c9b0 : decide (a1 < a0) = true := decide_eq_true c9
          clear c9
          obtain rfl := Option.some.inj H
          simp only [Option.some.injEq, Prod.mk.injEq] at H
          obtain ⟨rfl⟩ := H
          go_enter Tryd.func57, Tryd.ntmps57
          go_wp2_with (first | ((with_reducible refine gate_callee (f := 66) rfl ?_); refine goesL_ (some 8) rfl rfl Tryd.func66 (by kernel_rfl) rfl #[.int .i64 a0] rfl (by (try simp only [List.map_toArray, List.map_cons, List.map_nil]); first | done | rfl | (simp only [List.length_drop, List.length_take]; rfl)) ?_; (with_reducible refine (cmp_isNaN_int.calls a0 false _ A3.out).mono ?_); rintro e w' ⟨rfl, ⟨nd, rfl⟩⟩; refine ⟨_, rfl, ?_⟩) | ((with_reducible refine gate_callee (f := 66) rfl ?_); refine goesL_ (some 10) rfl rfl Tryd.func66 (by kernel_rfl) rfl #[.int .i64 a1] rfl (by (try simp only [List.map_toArray, List.map_cons, List.map_nil]); first | done | rfl | (simp only [List.length_drop, List.length_take]; rfl)) ?_; (with_reducible refine (cmp_isNaN_int.calls a1 false _ A4.out).mono ?_); rintro e w' ⟨rfl, ⟨nd, rfl⟩⟩; refine ⟨_, rfl, ?_⟩))
          go_ret
          exact ⟨by first | rfl | (simp; done) | (simp [*]; done), by repeat (first | exact Drawn0.refl _ | apply Drawn0.step)⟩
        · rw [if_neg c9] at H
          have c9b0 : decide (a1 < a0) = false := decide_eq_false c9
          clear c9
          obtain rfl := Option.some.inj H
          simp only [Option.some.injEq, Prod.mk.injEq] at H
          obtain ⟨rfl⟩ := H
          go_enter Tryd.func57, Tryd.ntmps57
          go_wp2_with (first | ((with_reducible refine gate_callee (f := 66) rfl ?_); refine goesL_ (some 8) rfl rfl Tryd.func66 (by kernel_rfl) rfl #[.int .i64 a0] rfl (by (try simp only [List.map_toArray, List.map_cons, List.map_nil]); first | done | rfl | (simp only [List.length_drop, List.length_take]; rfl)) ?_; (with_reducible refine (cmp_isNaN_int.calls a0 false _ A3.out).mono ?_); rintro e w' ⟨rfl, ⟨nd, rfl⟩⟩; refine ⟨_, rfl, ?_⟩) | ((with_reducible refine gate_callee (f := 66) rfl ?_); refine goesL_ (some 10) rfl rfl Tryd.func66 (by kernel_rfl) rfl #[.int .i64 a1] rfl (by (try simp only [List.map_toArray, List.map_cons, List.map_nil]); first | done | rfl | (simp only [List.length_drop, List.length_take]; rfl)) ?_; (with_reducible refine (cmp_isNaN_int.calls a1 false _ A4.out).mono ?_); rintro e w' ⟨rfl, ⟨nd, rfl⟩⟩; refine ⟨_, rfl, ?_⟩))
          go_ret
          exact ⟨by first | rfl | (simp; done) | (simp [*]; done), by repeat (first | exact Drawn0.refl _ | apply Drawn0.step)⟩

end Go.Proofs.YtkfibjmjamdigaaDoor.Q
-- Written by wip/myprint.py (a program of this repo's own) out of the translation.
namespace Go.Proofs.YtkfibjmjamdigaaDoor.Q
open Go.RowKit Go.Proofs.YtkfibjmjamdigaaDoorW.PrintWords Go.Proofs.YtkfibjmjamdigaaDoorW.PrintLast Go.Proofs.YtkfibjmjamdigaaDoorW.PrintMore
attribute [local go_sem] max2_int min2_int max_two min_two max_three min_three max_four min_four   -- for this text's walks alone
set_option linter.unusedVariables false
set_option linter.unusedSimpArgs false

/-! ### fraction_Compare: function 27 -/
def fraction_Compare.f (k : Nat) (a0_0 : Int) (a0_1 : Int) (a1_0 : Int) (a1_1 : Int) : Option (Int × Bool) := (fraction_Valid.f k a0_0 a0_1).bind fun t239 => (if t239 = true then ((fraction_Valid.f k a1_0 a1_1).bind fun t240 => (if t240 = true then ((cmp_Compare_int.f (wrap64 (a0_0 * a1_1)) (wrap64 (a1_0 * a0_1))).bind fun t241 => (some (t241, true))) else (some (0, false)))) else (some (0, false)))
theorem fraction_Compare.mono : ∀ a0 a1 a2 a3 k, LeO (fraction_Compare.f k a0 a1 a2 a3) (fraction_Compare.f (k + 1) a0 a1 a2 a3) := by
  intro a0 a1 a2 a3 k
  unfold fraction_Compare.f
  repeat' first
      | (with_reducible exact fraction_Valid.mono _ _ _)
      | (with_reducible exact LeO.refl _)
      | (with_reducible exact LeO.none _)
      | (with_reducible refine LeO.ite ?_ ?_)
      | (with_reducible refine LeO.bind ?_ (fun _ => ?_))
      | exact fraction_Valid.mono _ _ _
      | exact LeO.none _
      | refine LeO.ite ?_ ?_
      | refine LeO.bind ?_ (fun _ => ?_)
set_option maxHeartbeats 8000000 in
set_option maxRecDepth 100000 in
theorem fraction_Compare.calls (k : Nat) (a0_0 : Int) (a0_1 : Int) (a1_0 : Int) (a1_1 : Int) (r1 : Int) (r2 : Bool) (w : World) (h : fraction_Compare.f k a0_0 a0_1 a1_0 a1_1 = some (r1, r2)) :
    Calls Tryd.prog 27 #[.agg #[.int .i64 a0_0, .int .i64 a0_1], .agg #[.int .i64 a1_0, .int .i64 a1_1]] w fun e w' => e = .returned (.tuple #[.int .i64 r1, .bool r2]) ∧ Below w.heap.size w w' := by
  have hu23 := Tryd.underlying23
  have HB := Aside0.mk (Below.refl w.heap.size w)
  have H : ((fraction_Valid.f k a0_0 a0_1).bind fun t239 => (if t239 = true then ((fraction_Valid.f k a1_0 a1_1).bind fun t240 => (if t240 = true then ((cmp_Compare_int.f (wrap64 (a0_0 * a1_1)) (wrap64 (a1_0 * a0_1))).bind fun t241 => (some (t241, true))) else (some (0, false)))) else (some (0, false)))) = some (r1, r2) := h
  clear h
  replace H := Option.bind_eq_some_iff.mp H
  obtain ⟨t239, A30, H⟩ := H
  replace H : (if t239 = true then ((fraction_Valid.f k a1_0 a1_1).bind fun t240 => (if t240 = true then ((cmp_Compare_int.f (wrap64 (a0_0 * a1_1)) (wrap64 (a1_0 * a0_1))).bind fun t241 => (some (t241, true))) else (some (0, false)))) else (some (0, false))) = some (r1, r2) := H
  have A3 := Aside0.mk A30
  clear A30
  by_cases c4 : t239 = true
  · subst c4
    have H1 : ((fraction_Valid.f k a1_0 a1_1).bind fun t240 => (if t240 = true then ((cmp_Compare_int.f (wrap64 (a0_0 * a1_1)) (wrap64 (a1_0 * a0_1))).bind fun t241 => (some (t241, true))) else (some (0, false)))) = some (r1, r2) := by rw [if_pos rfl] at H; exact H
    clear H
    have H := H1
    clear H1
    replace H := Option.bind_eq_some_iff.mp H
    obtain ⟨t240, A50, H⟩ := H
    replace H : (if t240 = true then ((cmp_Compare_int.f (wrap64 (a0_0 * a1_1)) (wrap64 (a1_0 * a0_1))).bind fun t241 => (some (t241, true))) else (some (0, false))) = some (r1, r2) := H
    have A5 := Aside0.mk A50
    clear A50
    by_cases c6 : t240 = true
    · subst c6
      have H1 : ((cmp_Compare_int.f (wrap64 (a0_0 * a1_1)) (wrap64 (a1_0 * a0_1))).bind fun t241 => (some (t241, true))) = some (r1, r2) := by rw [if_pos rfl] at H; exact H
      clear H
      have H := H1
      clear H1
      replace H := Option.bind_eq_some_iff.mp H
      obtain ⟨t241, A70, H⟩ := H
      replace H : (some (t241, true)) = some (r1, r2) := H
      have A7 := Aside0.mk A70
      clear A70
      simp only [Option.some.injEq, Prod.mk.injEq] at H
      obtain ⟨rfl, rfl⟩ := H
      go_enter Tryd.func27, Tryd.ntmps27
      go_wp2_with (first | ((with_reducible refine gate_dst (N := 2) rfl ?_); refine box_event ?hg (N := 2) ?hd (cs := #[.int .i64 a0_0, .int .i64 a0_1]) (t := 23) ?hr ?_; (case hd => rfl); (case hg => rfl); (case hr => first | (go_simp; done) | (go_simp; rfl)); intro gb237 hg w8 hbox hb; have n0_ := Aside0.mk (below_step (by repeat (first | (with_reducible first | exact HB.out | apply below_alloc | apply pw_below_drewN | apply below_drew1) | exact HB.out)) hb); have n1_ := Aside0.mk (hbox); have n2_ := Aside0.mk ((by rw [hg]; exact (below_size (by repeat (first | (with_reducible first | exact HB.out | apply below_alloc | apply pw_below_drewN | apply below_drew1) | exact HB.out))) : w.heap.size ≤ gb237)); have n3_ := Aside0.mk ((by rw [hg]; exact (below_size (by repeat (first | (with_reducible first | exact HB.out | apply below_alloc | apply pw_below_drewN | apply below_drew1) | exact HB.out))) : w.heap.size ≤ gb237)); clear HB; have HB := n0_; have BK237 := n1_; have GW237 := n2_; have GE237 := n3_; clear n0_ n1_ n2_ n3_; clear hb hbox hg) | ((with_reducible refine gate_dst (N := 3) rfl ?_); refine box_event ?hg (N := 3) ?hd (cs := #[.int .i64 a1_0, .int .i64 a1_1]) (t := 23) ?hr ?_; (case hd => rfl); (case hg => rfl); (case hr => first | (go_simp; done) | (go_simp; rfl)); intro gb238 hg w9 hbox hb; have n0_ := Aside0.mk (blk_below (g := gb237) (o := .cells #[.int .i64 a0_0, .int .i64 a0_1] 23 (0, 0)) (by (with_reducible repeat (first | refine blk_drewN ?_ _ | refine blk_drew ?_ | refine blk_alloc ?_ _)); exact BK237.out) hb); have n1_ := Aside0.mk (below_step (by repeat (first | (with_reducible first | exact HB.out | apply below_alloc | apply pw_below_drewN | apply below_drew1 | refine below_set ?_ GE237.out) | exact HB.out)) hb); have n2_ := Aside0.mk (hbox); have n3_ := Aside0.mk ((by rw [hg]; exact (below_size (by repeat (first | (with_reducible first | exact HB.out | apply below_alloc | apply pw_below_drewN | apply below_drew1 | refine below_set ?_ GE237.out) | exact HB.out))) : w.heap.size ≤ gb238)); have n4_ := Aside0.mk ((by rw [hg]; exact (below_size (by repeat (first | (with_reducible first | exact HB.out | apply below_alloc | apply pw_below_drewN | apply below_drew1 | refine below_set ?_ GE237.out) | exact HB.out))) : w.heap.size ≤ gb238)); have n5_ := Aside0.mk ((by rw [hg]; exact Nat.ne_of_lt (blk_lt (g := gb237) (o := .cells #[.int .i64 a0_0, .int .i64 a0_1] 23 (0, 0)) (by (with_reducible repeat (first | refine blk_drewN ?_ _ | refine blk_drew ?_ | refine blk_alloc ?_ _)); exact BK237.out)) : gb237 ≠ gb238)); have n6_ := Aside0.mk ((by rw [hg]; exact Nat.ne_of_gt (blk_lt (g := gb237) (o := .cells #[.int .i64 a0_0, .int .i64 a0_1] 23 (0, 0)) (by (with_reducible repeat (first | refine blk_drewN ?_ _ | refine blk_drew ?_ | refine blk_alloc ?_ _)); exact BK237.out)) : gb238 ≠ gb237)); clear BK237; clear HB; have BK237 := n0_; have HB := n1_; have BK238 := n2_; have GW238 := n3_; have GE238 := n4_; have NB237_238 := n5_; have NB238_237 := n6_; clear n0_ n1_ n2_ n3_ n4_ n5_ n6_; clear hb hbox hg; have hnb10 := NB237_238.out; have hnc10 := NB238_237.out; have hcz11_0 : w9.cell? ⟨gb237, 0, none⟩ = some (.int .i64 a0_0) := (blk_cell BK237.out 0).trans rfl; have hcz11_1 : w9.cell? ⟨gb237, 1, none⟩ = some (.int .i64 a0_1) := (blk_cell BK237.out 1).trans rfl; have hfz11_0 := blk_frozen BK237.out 0; have hfz11_1 := blk_frozen BK237.out 1) | ((with_reducible refine gate_callee (f := 15) rfl ?_); refine goesL_ (some 7) rfl rfl Tryd.func15 (by kernel_rfl) rfl #[.agg #[.int .i64 a0_0, .int .i64 a0_1]] rfl (by (try simp only [List.map_toArray, List.map_cons, List.map_nil]); first | done | rfl | (simp only [List.length_drop, List.length_take]; rfl)) ?_; (with_reducible refine (fraction_Valid.calls k a0_0 a0_1 true _ A3.out).mono ?_); rintro e w12 ⟨rfl, hb⟩; refine ⟨_, rfl, ?_⟩; have n0_ := Aside0.mk (blk_below (g := gb237) (o := .cells #[.int .i64 a0_0, .int .i64 a0_1] 23 (0, 0)) (by (with_reducible repeat (first | refine blk_drewN ?_ _ | refine blk_drew ?_ | refine blk_alloc ?_ _)); exact BK237.out) hb); have n1_ := Aside0.mk (blk_below (g := gb238) (o := .cells #[.int .i64 a1_0, .int .i64 a1_1] 23 (0, 0)) (by (with_reducible repeat (first | refine blk_drewN ?_ _ | refine blk_drew ?_ | refine blk_alloc ?_ _)); exact BK238.out) hb); have n2_ := Aside0.mk (below_step (by repeat (first | (with_reducible first | exact HB.out | apply below_alloc | apply pw_below_drewN | apply below_drew1 | refine below_set ?_ GE237.out | refine below_set ?_ GE238.out) | exact HB.out)) hb); clear BK237; clear BK238; clear HB; have BK237 := n0_; have BK238 := n1_; have HB := n2_; clear n0_ n1_ n2_; (try clear hb); (try clear hb2); (try clear hk); (try clear hi); have hcz13_0 : w12.cell? ⟨gb238, 0, none⟩ = some (.int .i64 a1_0) := (blk_cell BK238.out 0).trans rfl; have hcz13_1 : w12.cell? ⟨gb238, 1, none⟩ = some (.int .i64 a1_1) := (blk_cell BK238.out 1).trans rfl; have hfz13_0 := blk_frozen BK238.out 0; have hfz13_1 := blk_frozen BK238.out 1) | (go_at_call 15; (with_reducible refine (fraction_Valid.calls k a1_0 a1_1 true _ A5.out).mono ?_); rintro e w14 ⟨rfl, hb⟩; have n0_ := Aside0.mk (blk_below (g := gb237) (o := .cells #[.int .i64 a0_0, .int .i64 a0_1] 23 (0, 0)) (by (with_reducible repeat (first | refine blk_drewN ?_ _ | refine blk_drew ?_ | refine blk_alloc ?_ _)); exact BK237.out) hb); have n1_ := Aside0.mk (blk_below (g := gb238) (o := .cells #[.int .i64 a1_0, .int .i64 a1_1] 23 (0, 0)) (by (with_reducible repeat (first | refine blk_drewN ?_ _ | refine blk_drew ?_ | refine blk_alloc ?_ _)); exact BK238.out) hb); have n2_ := Aside0.mk (below_step (by repeat (first | (with_reducible first | exact HB.out | apply below_alloc | apply pw_below_drewN | apply below_drew1 | refine below_set ?_ GE237.out | refine below_set ?_ GE238.out) | exact HB.out)) hb); clear BK237; clear BK238; clear HB; have BK237 := n0_; have BK238 := n1_; have HB := n2_; clear n0_ n1_ n2_; (try clear hb); (try clear hb2); (try clear hk); (try clear hi); have hcz15_0 : w14.cell? ⟨gb237, 0, none⟩ = some (.int .i64 a0_0) := (blk_cell BK237.out 0).trans rfl; have hcz15_1 : w14.cell? ⟨gb237, 1, none⟩ = some (.int .i64 a0_1) := (blk_cell BK237.out 1).trans rfl; have hfz15_0 := blk_frozen BK237.out 0; have hfz15_1 := blk_frozen BK237.out 1; have hcz16_0 : w14.cell? ⟨gb238, 0, none⟩ = some (.int .i64 a1_0) := (blk_cell BK238.out 0).trans rfl; have hcz16_1 : w14.cell? ⟨gb238, 1, none⟩ = some (.int .i64 a1_1) := (blk_cell BK238.out 1).trans rfl; have hfz16_0 := blk_frozen BK238.out 0; have hfz16_1 := blk_frozen BK238.out 1) | ((with_reducible refine gate_callee (f := 57) rfl ?_); refine goesL_ (some 24) rfl rfl Tryd.func57 (by kernel_rfl) rfl #[.int .i64 (wrap64 (a0_0 * a1_1)), .int .i64 (wrap64 (a1_0 * a0_1))] rfl (by (try simp only [List.map_toArray, List.map_cons, List.map_nil]); first | done | rfl | (simp only [List.length_drop, List.length_take]; rfl)) ?_; (with_reducible refine (cmp_Compare_int.calls (wrap64 (a0_0 * a1_1)) (wrap64 (a1_0 * a0_1)) t241 _ A7.out).mono ?_); rintro e w' ⟨rfl, ⟨nd, rfl⟩⟩; refine ⟨_, rfl, ?_⟩))
      go_ret2
      exact ⟨by first | rfl | (simp [errW_none, errW_some] <;> rfl) | (simp [*, errW_none, errW_some] <;> rfl), by repeat (first | (with_reducible first | exact HB.out | apply below_alloc | apply pw_below_drewN | apply below_drew1 | refine below_set ?_ GE237.out | refine below_set ?_ GE238.out) | exact HB.out)⟩
    · replace c6 := Bool.eq_false_iff.mpr c6
      subst c6
      have H1 : (some (0, false)) = some (r1, r2) := by rw [if_neg (show ¬ (false = true) by decide)] at H; exact H
      clear H
      have H := H1
      clear H1
      simp only [Option.some.injEq, Prod.mk.injEq] at H
      obtain ⟨rfl, rfl⟩ := H
      go_enter Tryd.func27, Tryd.ntmps27
      go_wp2_with (first | ((with_reducible refine gate_dst (N := 2) rfl ?_); refine box_event ?hg (N := 2) ?hd (cs := #[.int .i64 a0_0, .int .i64 a0_1]) (t := 23) ?hr ?_; (case hd => rfl); (case hg => rfl); (case hr => first | (go_simp; done) | (go_simp; rfl)); intro gb237 hg w17 hbox hb; have n0_ := Aside0.mk (below_step (by repeat (first | (with_reducible first | exact HB.out | apply below_alloc | apply pw_below_drewN | apply below_drew1) | exact HB.out)) hb); have n1_ := Aside0.mk (hbox); have n2_ := Aside0.mk ((by rw [hg]; exact (below_size (by repeat (first | (with_reducible first | exact HB.out | apply below_alloc | apply pw_below_drewN | apply below_drew1) | exact HB.out))) : w.heap.size ≤ gb237)); have n3_ := Aside0.mk ((by rw [hg]; exact (below_size (by repeat (first | (with_reducible first | exact HB.out | apply below_alloc | apply pw_below_drewN | apply below_drew1) | exact HB.out))) : w.heap.size ≤ gb237)); clear HB; have HB := n0_; have BK237 := n1_; have GW237 := n2_; have GE237 := n3_; clear n0_ n1_ n2_ n3_; clear hb hbox hg) | ((with_reducible refine gate_dst (N := 3) rfl ?_); refine box_event ?hg (N := 3) ?hd (cs := #[.int .i64 a1_0, .int .i64 a1_1]) (t := 23) ?hr ?_; (case hd => rfl); (case hg => rfl); (case hr => first | (go_simp; done) | (go_simp; rfl)); intro gb238 hg w18 hbox hb; have n0_ := Aside0.mk (blk_below (g := gb237) (o := .cells #[.int .i64 a0_0, .int .i64 a0_1] 23 (0, 0)) (by (with_reducible repeat (first | refine blk_drewN ?_ _ | refine blk_drew ?_ | refine blk_alloc ?_ _)); exact BK237.out) hb); have n1_ := Aside0.mk (below_step (by repeat (first | (with_reducible first | exact HB.out | apply below_alloc | apply pw_below_drewN | apply below_drew1 | refine below_set ?_ GE237.out) | exact HB.out)) hb); have n2_ := Aside0.mk (hbox); have n3_ := Aside0.mk ((by rw [hg]; exact (below_size (by repeat (first | (with_reducible first | exact HB.out | apply below_alloc | apply pw_below_drewN | apply below_drew1 | refine below_set ?_ GE237.out) | exact HB.out))) : w.heap.size ≤ gb238)); have n4_ := Aside0.mk ((by rw [hg]; exact (below_size (by repeat (first | (with_reducible first | exact HB.out | apply below_alloc | apply pw_below_drewN | apply below_drew1 | refine below_set ?_ GE237.out) | exact HB.out))) : w.heap.size ≤ gb238)); have n5_ := Aside0.mk ((by rw [hg]; exact Nat.ne_of_lt (blk_lt (g := gb237) (o := .cells #[.int .i64 a0_0, .int .i64 a0_1] 23 (0, 0)) (by (with_reducible repeat (first | refine blk_drewN ?_ _ | refine blk_drew ?_ | refine blk_alloc ?_ _)); exact BK237.out)) : gb237 ≠ gb238)); have n6_ := Aside0.mk ((by rw [hg]; exact Nat.ne_of_gt (blk_lt (g := gb237) (o := .cells #[.int .i64 a0_0, .int .i64 a0_1] 23 (0, 0)) (by (with_reducible repeat (first | refine blk_drewN ?_ _ | refine blk_drew ?_ | refine blk_alloc ?_ _)); exact BK237.out)) : gb238 ≠ gb237)); clear BK237; clear HB; have BK237 := n0_; have HB := n1_; have BK238 := n2_; have GW238 := n3_; have GE238 := n4_; have NB237_238 := n5_; have NB238_237 := n6_; clear n0_ n1_ n2_ n3_ n4_ n5_ n6_; clear hb hbox hg; have hnb19 := NB237_238.out; have hnc19 := NB238_237.out; have hcz20_0 : w18.cell? ⟨gb237, 0, none⟩ = some (.int .i64 a0_0) := (blk_cell BK237.out 0).trans rfl; have hcz20_1 : w18.cell? ⟨gb237, 1, none⟩ = some (.int .i64 a0_1) := (blk_cell BK237.out 1).trans rfl; have hfz20_0 := blk_frozen BK237.out 0; have hfz20_1 := blk_frozen BK237.out 1) | ((with_reducible refine gate_callee (f := 15) rfl ?_); refine goesL_ (some 7) rfl rfl Tryd.func15 (by kernel_rfl) rfl #[.agg #[.int .i64 a0_0, .int .i64 a0_1]] rfl (by (try simp only [List.map_toArray, List.map_cons, List.map_nil]); first | done | rfl | (simp only [List.length_drop, List.length_take]; rfl)) ?_; (with_reducible refine (fraction_Valid.calls k a0_0 a0_1 true _ A3.out).mono ?_); rintro e w21 ⟨rfl, hb⟩; refine ⟨_, rfl, ?_⟩; have n0_ := Aside0.mk (blk_below (g := gb237) (o := .cells #[.int .i64 a0_0, .int .i64 a0_1] 23 (0, 0)) (by (with_reducible repeat (first | refine blk_drewN ?_ _ | refine blk_drew ?_ | refine blk_alloc ?_ _)); exact BK237.out) hb); have n1_ := Aside0.mk (blk_below (g := gb238) (o := .cells #[.int .i64 a1_0, .int .i64 a1_1] 23 (0, 0)) (by (with_reducible repeat (first | refine blk_drewN ?_ _ | refine blk_drew ?_ | refine blk_alloc ?_ _)); exact BK238.out) hb); have n2_ := Aside0.mk (below_step (by repeat (first | (with_reducible first | exact HB.out | apply below_alloc | apply pw_below_drewN | apply below_drew1 | refine below_set ?_ GE237.out | refine below_set ?_ GE238.out) | exact HB.out)) hb); clear BK237; clear BK238; clear HB; have BK237 := n0_; have BK238 := n1_; have HB := n2_; clear n0_ n1_ n2_; (try clear hb); (try clear hb2); (try clear hk); (try clear hi); have hcz22_0 : w21.cell? ⟨gb238, 0, none⟩ = some (.int .i64 a1_0) := (blk_cell BK238.out 0).trans rfl; have hcz22_1 : w21.cell? ⟨gb238, 1, none⟩ = some (.int .i64 a1_1) := (blk_cell BK238.out 1).trans rfl; have hfz22_0 := blk_frozen BK238.out 0; have hfz22_1 := blk_frozen BK238.out 1) | (go_at_call 15; (with_reducible refine (fraction_Valid.calls k a1_0 a1_1 false _ A5.out).mono ?_); rintro e w23 ⟨rfl, hb⟩; have n0_ := Aside0.mk (blk_below (g := gb237) (o := .cells #[.int .i64 a0_0, .int .i64 a0_1] 23 (0, 0)) (by (with_reducible repeat (first | refine blk_drewN ?_ _ | refine blk_drew ?_ | refine blk_alloc ?_ _)); exact BK237.out) hb); have n1_ := Aside0.mk (blk_below (g := gb238) (o := .cells #[.int .i64 a1_0, .int .i64 a1_1] 23 (0, 0)) (by (with_reducible repeat (first | refine blk_drewN ?_ _ | refine blk_drew ?_ | refine blk_alloc ?_ _)); exact BK238.out) hb); have n2_ := Aside0.mk (below_step (by repeat (first | (with_reducible first | exact HB.out | apply below_alloc | apply pw_below_drewN | apply below_drew1 | refine below_set ?_ GE237.out | refine below_set ?_ GE238.out) | exact HB.out)) hb); clear BK237; clear BK238; clear HB; have BK237 := n0_; have BK238 := n1_; have HB := n2_; clear n0_ n1_ n2_; (try clear hb); (try clear hb2); (try clear hk); (try clear hi)))
      go_ret2
      exact ⟨by first | rfl | (simp [errW_none, errW_some] <;> rfl) | (simp [*, errW_none, errW_some] <;> rfl), by repeat (first | (with_reducible first | exact HB.out | apply below_alloc | apply pw_below_drewN | apply below_drew1 | refine below_set ?_ GE237.out | refine below_set ?_ GE238.out) | exact HB.out)⟩
  · replace c4 := Bool.eq_false_iff.mpr c4
    subst c4
    have H1 : (some (0, false)) = some (r1, r2) := by rw [if_neg (show ¬ (false = true) by decide)] at H; exact H
    clear H
    have H := H1
    clear H1
    simp only [Option.some.injEq, Prod.mk.injEq] at H
    obtain ⟨rfl, rfl⟩ := H
    go_enter Tryd.func27, Tryd.ntmps27
    go_wp2_with (first | ((with_reducible refine gate_dst (N := 2) rfl ?_); refine box_event ?hg (N := 2) ?hd (cs := #[.int .i64 a0_0, .int .i64 a0_1]) (t := 23) ?hr ?_; (case hd => rfl); (case hg => rfl); (case hr => first | (go_simp; done) | (go_simp; rfl)); intro gb237 hg w24 hbox hb; have n0_ := Aside0.mk (below_step (by repeat (first | (with_reducible first | exact HB.out | apply below_alloc | apply pw_below_drewN | apply below_drew1) | exact HB.out)) hb); have n1_ := Aside0.mk (hbox); have n2_ := Aside0.mk ((by rw [hg]; exact (below_size (by repeat (first | (with_reducible first | exact HB.out | apply below_alloc | apply pw_below_drewN | apply below_drew1) | exact HB.out))) : w.heap.size ≤ gb237)); have n3_ := Aside0.mk ((by rw [hg]; exact (below_size (by repeat (first | (with_reducible first | exact HB.out | apply below_alloc | apply pw_below_drewN | apply below_drew1) | exact HB.out))) : w.heap.size ≤ gb237)); clear HB; have HB := n0_; have BK237 := n1_; have GW237 := n2_; have GE237 := n3_; clear n0_ n1_ n2_ n3_; clear hb hbox hg) | ((with_reducible refine gate_dst (N := 3) rfl ?_); refine box_event ?hg (N := 3) ?hd (cs := #[.int .i64 a1_0, .int .i64 a1_1]) (t := 23) ?hr ?_; (case hd => rfl); (case hg => rfl); (case hr => first | (go_simp; done) | (go_simp; rfl)); intro gb238 hg w25 hbox hb; have n0_ := Aside0.mk (blk_below (g := gb237) (o := .cells #[.int .i64 a0_0, .int .i64 a0_1] 23 (0, 0)) (by (with_reducible repeat (first | refine blk_drewN ?_ _ | refine blk_drew ?_ | refine blk_alloc ?_ _)); exact BK237.out) hb); have n1_ := Aside0.mk (below_step (by repeat (first | (with_reducible first | exact HB.out | apply below_alloc | apply pw_below_drewN | apply below_drew1 | refine below_set ?_ GE237.out) | exact HB.out)) hb); have n2_ := Aside0.mk (hbox); have n3_ := Aside0.mk ((by rw [hg]; exact (below_size (by repeat (first | (with_reducible first | exact HB.out | apply below_alloc | apply pw_below_drewN | apply below_drew1 | refine below_set ?_ GE237.out) | exact HB.out))) : w.heap.size ≤ gb238)); have n4_ := Aside0.mk ((by rw [hg]; exact (below_size (by repeat (first | (with_reducible first | exact HB.out | apply below_alloc | apply pw_below_drewN | apply below_drew1 | refine below_set ?_ GE237.out) | exact HB.out))) : w.heap.size ≤ gb238)); have n5_ := Aside0.mk ((by rw [hg]; exact Nat.ne_of_lt (blk_lt (g := gb237) (o := .cells #[.int .i64 a0_0, .int .i64 a0_1] 23 (0, 0)) (by (with_reducible repeat (first | refine blk_drewN ?_ _ | refine blk_drew ?_ | refine blk_alloc ?_ _)); exact BK237.out)) : gb237 ≠ gb238)); have n6_ := Aside0.mk ((by rw [hg]; exact Nat.ne_of_gt (blk_lt (g := gb237) (o := .cells #[.int .i64 a0_0, .int .i64 a0_1] 23 (0, 0)) (by (with_reducible repeat (first | refine blk_drewN ?_ _ | refine blk_drew ?_ | refine blk_alloc ?_ _)); exact BK237.out)) : gb238 ≠ gb237)); clear BK237; clear HB; have BK237 := n0_; have HB := n1_; have BK238 := n2_; have GW238 := n3_; have GE238 := n4_; have NB237_238 := n5_; have NB238_237 := n6_; clear n0_ n1_ n2_ n3_ n4_ n5_ n6_; clear hb hbox hg; have hnb26 := NB237_238.out; have hnc26 := NB238_237.out; have hcz27_0 : w25.cell? ⟨gb237, 0, none⟩ = some (.int .i64 a0_0) := (blk_cell BK237.out 0).trans rfl; have hcz27_1 : w25.cell? ⟨gb237, 1, none⟩ = some (.int .i64 a0_1) := (blk_cell BK237.out 1).trans rfl; have hfz27_0 := blk_frozen BK237.out 0; have hfz27_1 := blk_frozen BK237.out 1) | ((with_reducible refine gate_callee (f := 15) rfl ?_); refine goesL_ (some 7) rfl rfl Tryd.func15 (by kernel_rfl) rfl #[.agg #[.int .i64 a0_0, .int .i64 a0_1]] rfl (by (try simp only [List.map_toArray, List.map_cons, List.map_nil]); first | done | rfl | (simp only [List.length_drop, List.length_take]; rfl)) ?_; (with_reducible refine (fraction_Valid.calls k a0_0 a0_1 false _ A3.out).mono ?_); rintro e w28 ⟨rfl, hb⟩; refine ⟨_, rfl, ?_⟩; have n0_ := Aside0.mk (blk_below (g := gb237) (o := .cells #[.int .i64 a0_0, .int .i64 a0_1] 23 (0, 0)) (by (with_reducible repeat (first | refine blk_drewN ?_ _ | refine blk_drew ?_ | refine blk_alloc ?_ _)); exact BK237.out) hb); have n1_ := Aside0.mk (blk_below (g := gb238) (o := .cells #[.int .i64 a1_0, .int .i64 a1_1] 23 (0, 0)) (by (with_reducible repeat (first | refine blk_drewN ?_ _ | refine blk_drew ?_ | refine blk_alloc ?_ _)); exact BK238.out) hb); have n2_ := Aside0.mk (below_step (by repeat (first | (with_reducible first | exact HB.out | apply below_alloc | apply pw_below_drewN | apply below_drew1 | refine below_set ?_ GE237.out | refine below_set ?_ GE238.out) | exact HB.out)) hb); clear BK237; clear BK238; clear HB; have BK237 := n0_; have BK238 := n1_; have HB := n2_; clear n0_ n1_ n2_; (try clear hb); (try clear hb2); (try clear hk); (try clear hi)))
    go_ret2
    exact ⟨by first | rfl | (simp [errW_none, errW_some] <;> rfl) | (simp [*, errW_none, errW_some] <;> rfl), by repeat (first | (with_reducible first | exact HB.out | apply below_alloc | apply pw_below_drewN | apply below_drew1 | refine below_set ?_ GE237.out | refine below_set ?_ GE238.out) | exact HB.out)⟩

end Go.Proofs.YtkfibjmjamdigaaDoor.Q
/- Plain facts on the functions that the printed texts tell: greatest common divisors, validity, reduction, rounding down. -/
namespace Go.Proofs.YtkfibjmjamdigaaDoor.Q
open Go.RowKit Go.Proofs.YtkfibjmjamdigaaDoorW.PrintWords Go.Proofs.YtkfibjmjamdigaaDoorW.PrintLast Go.Proofs.YtkfibjmjamdigaaDoorW.PrintMore
theorem mono_le {α : Type} {f : Nat → Option α} (h : ∀ k, LeO (f k) (f (k + 1))) {k m : Nat} (hk : k ≤ m) : LeO (f k) (f m) := by
  induction hk with
  | refl => exact LeO.refl _
  | step _ ih => exact ih.trans (h _)
theorem w64 {x : Int} (h : -9223372036854775808 ≤ x) (h2 : x ≤ 9223372036854775807) : wrap64 x = x := by unfold wrap64; omega
theorem awake_60 : assessorlaw46_awake.f 60 = some true := by kernel_rfl
theorem awake_true {k : Nat} (hk : 60 ≤ k) : assessorlaw46_awake.f k = some true := mono_le (f := fun k => assessorlaw46_awake.f k) (fun k => assessorlaw46_awake.mono k) hk _ awake_60

theorem divisor_gcd : ∀ (y k x : Nat), y < k → fraction_divisor.l0 k (x : Int) (y : Int) = some ((Nat.gcd x y : Nat) : Int) := by
  intro y
  induction y using Nat.strongRecOn with
  | ind y ih =>
    intro k x hk
    obtain ⟨k, rfl⟩ : ∃ m, k = m + 1 := ⟨k - 1, by omega⟩
    simp only [fraction_divisor.l0]
    by_cases h : y = 0
    · subst h
      rw [if_neg (by omega)]
      simp
    · rw [if_pos (by omega), if_neg (by omega)]
      have e : Int.tmod (x : Int) (y : Int) = ((x % y : Nat) : Int) := by rw [Int.tmod_eq_emod_of_nonneg (by omega)]; simp
      rw [e, ih (x % y) (Nat.mod_lt _ (by omega)) k y (by have := Nat.mod_lt x (by omega : y > 0); omega)]
      rw [Nat.gcd_comm y (x % y), ← Nat.gcd_rec y x, Nat.gcd_comm y x]
theorem divisor_int {k : Nat} {a b : Int} (ha : 0 ≤ a) (hb : 0 ≤ b) (hk : b < k) : fraction_divisor.f k a b = some ((Nat.gcd a.natAbs b.natAbs : Nat) : Int) := by
  unfold fraction_divisor.f
  have := divisor_gcd b.natAbs k a.natAbs (by omega)
  rwa [show ((a.natAbs : Nat) : Int) = a by omega, show ((b.natAbs : Nat) : Int) = b by omega] at this
theorem abs_f {a : Int} (h : -9223372036854775807 ≤ a) (h2 : a ≤ 9223372036854775807) : fraction_abs.f a = some ((a.natAbs : Nat) : Int) := by
  unfold fraction_abs.f
  rw [w64 (by omega) (by omega)]
  unfold mx
  split <;> (congr 1; omega)
/-- A valid fraction. -/
def V (n d : Int) : Prop := 1 ≤ d ∧ d ≤ 1000000 ∧ -1000000000 ≤ n ∧ n ≤ 1000000000 ∧ Nat.gcd n.natAbs d.natAbs = 1
instance (n d : Int) : Decidable (V n d) := by unfold V; infer_instance
theorem valid_f {k : Nat} (hk : 1000000 < k) (n d : Int) : fraction_Valid.f k n d = some (decide (V n d)) := by
  unfold fraction_Valid.f
  by_cases h1 : d ≥ 1
  · by_cases h2 : d ≤ 1000000
    · by_cases h3 : n ≥ -1000000000
      · by_cases h4 : n ≤ 1000000000
        · rw [if_pos h1, if_pos h2, if_pos h3, if_pos h4, abs_f (by omega) (by omega)]
          simp only [Option.bind_some]
          rw [divisor_int (by omega) (by omega) (by omega)]
          simp only [Option.bind_some, Option.some.injEq]
          rw [Bool.eq_iff_iff]
          rw [beq_iff_eq, decide_eq_true_eq, Int.natAbs_natCast]
          constructor
          · intro h
            exact ⟨h1, h2, h3, h4, by omega⟩
          · intro h
            have := h.2.2.2.2
            omega
        · rw [if_pos h1, if_pos h2, if_pos h3, if_neg h4]; exact congrArg some (decide_eq_false (fun h => h4 h.2.2.2.1)).symm
      · rw [if_pos h1, if_pos h2, if_neg h3]; exact congrArg some (decide_eq_false (fun h => h3 h.2.2.1)).symm
    · rw [if_pos h1, if_neg h2]; exact congrArg some (decide_eq_false (fun h => h2 h.2.1)).symm
  · rw [if_neg h1]; exact congrArg some (decide_eq_false (fun h => h1 h.1)).symm
theorem floor_f {a b : Int} (hb : 1 ≤ b) (h1 : -4611686018427387904 ≤ a) (h2 : a ≤ 4611686018427387904) : ∃ q, fraction_floor.f a b = some q ∧ b * q ≤ a ∧ a < b * q + b := by
  have e := Int.mul_tdiv_add_tmod a b
  have l1 : Int.tmod a b < b := Int.tmod_lt_of_pos a (by omega)
  have l2 : -b < Int.tmod a b := Int.lt_tmod_of_pos a (by omega)
  have n1 : (Int.tdiv a b).natAbs ≤ a.natAbs := by
    rw [Int.natAbs_tdiv]
    exact Nat.div_le_self _ _
  unfold fraction_floor.f
  rw [if_neg (by omega), w64 (x := Int.tdiv a b) (by omega) (by omega)]
  by_cases h : Int.tmod a b < 0
  · rw [if_pos h, w64 (by omega) (by omega)]
    refine ⟨_, rfl, ?_, ?_⟩
    · rw [Int.mul_sub, Int.mul_one]; generalize b * Int.tdiv a b = t at *; omega
    · rw [Int.mul_sub, Int.mul_one]; generalize b * Int.tdiv a b = t at *; omega
  · rw [if_neg h]
    refine ⟨_, rfl, ?_, ?_⟩
    · generalize b * Int.tdiv a b = t at *; omega
    · generalize b * Int.tdiv a b = t at *; omega
theorem cmp_f (a b : Int) : cmp_Compare_int.f a b = some (if a < b then -1 else if a > b then 1 else 0) := by
  unfold cmp_Compare_int.f cmp_isNaN_int.f
  simp only [bne_self_eq_false, Option.bind_some, Bool.false_eq_true, if_false]
  split
  · rfl
  · split <;> rfl
/-- |q| is at most X where d * q is. -/
theorem quot_bound {d q X : Int} (hd : 1 ≤ d) (h1 : -X ≤ d * q + d) (h2 : d * q ≤ X) (hx : 0 ≤ X) : -X - 1 ≤ q ∧ q ≤ X := by
  constructor
  · rcases Int.le_total 0 (q + 1) with h | h
    · omega
    · have e : d * (q + 1) = d * q + d := by rw [Int.mul_add, Int.mul_one]
      have := Int.mul_le_mul_of_nonneg_right (a := 1) (b := d) (c := -(q + 1)) hd (by omega)
      have e2 : d * (-(q + 1)) = -(d * (q + 1)) := by rw [Int.mul_neg]
      omega
  · rcases Int.le_total q 0 with h | h
    · omega
    · have := Int.mul_le_mul_of_nonneg_right (a := 1) (b := d) (c := q) hd h
      omega
end Go.Proofs.YtkfibjmjamdigaaDoor.Q
/- Reduction to lowest terms: what 'reduced' and the four operations return, told by cross products. -/
namespace Go.Proofs.YtkfibjmjamdigaaDoor.Q
set_option linter.unusedVariables false
open Go.RowKit Go.Proofs.YtkfibjmjamdigaaDoorW.PrintWords Go.Proofs.YtkfibjmjamdigaaDoorW.PrintLast Go.Proofs.YtkfibjmjamdigaaDoorW.PrintMore
theorem coprime_unique {x y n d : Int} (hy : 1 ≤ y) (hd : 1 ≤ d) (h1 : Nat.gcd x.natAbs y.natAbs = 1) (h2 : Nat.gcd n.natAbs d.natAbs = 1) (h : x * d = n * y) : x = n ∧ y = d := by
  have e : x.natAbs * d.natAbs = n.natAbs * y.natAbs := by rw [← Int.natAbs_mul, ← Int.natAbs_mul, h]
  have c1 : Nat.Coprime y.natAbs x.natAbs := by rw [Nat.Coprime, Nat.gcd_comm]; exact h1
  have c2 : Nat.Coprime d.natAbs n.natAbs := by rw [Nat.Coprime, Nat.gcd_comm]; exact h2
  have d1 : y.natAbs ∣ d.natAbs := c1.dvd_of_dvd_mul_left (by rw [e]; exact Nat.dvd_mul_left _ _)
  have d2 : d.natAbs ∣ y.natAbs := c2.dvd_of_dvd_mul_left (by rw [← e]; exact Nat.dvd_mul_left _ _)
  have e2 : y = d := by have := Nat.dvd_antisymm d1 d2; omega
  subst e2
  exact ⟨Int.eq_of_mul_eq_mul_right (by omega) h, rfl⟩
/-- r is the fraction of value n / d in lowest terms, or the error 2 where none is valid. -/
def Red (n d r1 r2 r3 : Int) : Prop := (r3 = 0 ∧ V r1 r2 ∧ r1 * d = n * r2) ∨ (r3 = 2 ∧ r1 = 0 ∧ r2 = 0 ∧ ∀ x y, V x y → x * d ≠ n * y)
theorem V.unique {n d x y u v : Int} (hd : d ≠ 0) (h1 : V x y) (h2 : V u v) (e1 : x * d = n * y) (e2 : u * d = n * v) : x = u ∧ y = v := by
  obtain ⟨a1, _, _, _, a5⟩ := h1
  obtain ⟨b1, _, _, _, b5⟩ := h2
  refine coprime_unique a1 b1 a5 b5 (Int.eq_of_mul_eq_mul_right hd ?_)
  calc x * v * d = x * d * v := by grind
    _ = n * y * v := by rw [e1]
    _ = n * v * y := by grind
    _ = u * d * y := by rw [e2]
    _ = u * y * d := by grind
theorem Red.unique {n d r1 r2 r3 s1 s2 s3 : Int} (hd : d ≠ 0) (h : Red n d r1 r2 r3) (g : Red n d s1 s2 s3) : r1 = s1 ∧ r2 = s2 ∧ r3 = s3 := by
  rcases h with ⟨h1, h2, h3⟩ | ⟨h1, h2, h3, h4⟩
  · rcases g with ⟨g1, g2, g3⟩ | ⟨g1, g2, g3, g4⟩
    · obtain ⟨e1, e2⟩ := V.unique hd h2 g2 h3 g3
      exact ⟨e1, e2, by omega⟩
    · exact absurd h3 (g4 _ _ h2)
  · rcases g with ⟨g1, g2, g3⟩ | ⟨g1, g2, g3, g4⟩
    · exact absurd g3 (h4 _ _ g2)
    · omega
theorem red_pos {n d g : Int} (hd : 1 ≤ d) (hg : g = ((Nat.gcd n.natAbs d.natAbs : Nat) : Int)) : 1 ≤ g ∧ n = g * Int.tdiv n g ∧ d = g * Int.tdiv d g ∧ 1 ≤ Int.tdiv d g ∧ Nat.gcd (Int.tdiv n g).natAbs (Int.tdiv d g).natAbs = 1 ∧ (Int.tdiv n g).natAbs ≤ n.natAbs ∧ (Int.tdiv d g).natAbs ≤ d.natAbs := by
  have p : 0 < Nat.gcd n.natAbs d.natAbs := Nat.gcd_pos_of_pos_right _ (by omega)
  have h1 : g ∣ n := by rw [hg]; exact Int.ofNat_dvd_left.2 (Nat.gcd_dvd_left _ _)
  have h2 : g ∣ d := by rw [hg]; exact Int.ofNat_dvd_left.2 (Nat.gcd_dvd_right _ _)
  have e1 : g * Int.tdiv n g = n := Int.mul_tdiv_cancel' h1
  have e2 : g * Int.tdiv d g = d := Int.mul_tdiv_cancel' h2
  have ga : g.natAbs = Nat.gcd n.natAbs d.natAbs := by rw [hg]; simp
  refine ⟨by omega, e1.symm, e2.symm, ?_, ?_, ?_, ?_⟩
  · rcases Int.le_total (Int.tdiv d g) 0 with h | h
    · have := Int.mul_le_mul_of_nonneg_left (a := Int.tdiv d g) (b := 0) (c := g) h (by omega)
      omega
    · rcases Int.le_iff_lt_or_eq.1 h with h | h
      · omega
      · rw [← h] at e2; omega
  · rw [Int.natAbs_tdiv, Int.natAbs_tdiv, ga]
    exact Nat.coprime_div_gcd_div_gcd p
  · rw [Int.natAbs_tdiv]; exact Nat.div_le_self _ _
  · rw [Int.natAbs_tdiv]; exact Nat.div_le_self _ _
theorem red_of {n d g : Int} (hd : 1 ≤ d) (hg : g = ((Nat.gcd n.natAbs d.natAbs : Nat) : Int)) : (V (Int.tdiv n g) (Int.tdiv d g) → Red n d (Int.tdiv n g) (Int.tdiv d g) 0) ∧ (¬ V (Int.tdiv n g) (Int.tdiv d g) → Red n d 0 0 2) := by
  obtain ⟨h1, h2, h3, h4, h5, _, _⟩ := red_pos hd hg
  generalize Int.tdiv n g = n' at *
  generalize Int.tdiv d g = d' at *
  subst h2 h3
  refine ⟨fun h => .inl ⟨rfl, h, by grind⟩, fun h => .inr ⟨rfl, rfl, rfl, fun x y hv e => h ?_⟩⟩
  have e' : x * d' = n' * y := by
    refine Int.eq_of_mul_eq_mul_left (a := g) (by omega) ?_
    calc g * (x * d') = x * (g * d') := by grind
      _ = g * n' * y := e
      _ = g * (n' * y) := by grind
  obtain ⟨c1, c2⟩ := coprime_unique hv.1 h4 hv.2.2.2.2 h5 e'
  rw [← c1, ← c2]
  exact hv
theorem j0_red {k : Nat} {n d : Int} (hd : 1 ≤ d) (hn1 : -4611686018427387904 ≤ n) (hn2 : n ≤ 4611686018427387904) (hd2 : d ≤ 4611686018427387904) (hk : 4611686018427387909 < k) :
    ∃ r1 r2 r3, fraction_reduced.j0 k n d = some (r1, r2, r3) ∧ Red n d r1 r2 r3 := by
  obtain ⟨k, rfl⟩ : ∃ m, k = m + 1 := ⟨k - 1, by omega⟩
  simp only [fraction_reduced.j0]
  rw [abs_f (by omega) (by omega)]
  simp only [Option.bind_some]
  rw [divisor_int (by omega) (by omega) (by omega)]
  simp only [Option.bind_some, Int.natAbs_natCast]
  generalize hg : ((Nat.gcd n.natAbs d.natAbs : Nat) : Int) = g
  obtain ⟨h1, _, _, _, _, h6, h7⟩ := red_pos hd hg.symm
  obtain ⟨a, b⟩ := red_of hd hg.symm
  rw [if_neg (by omega), w64 (x := Int.tdiv n g) (by omega) (by omega), w64 (x := Int.tdiv d g) (by omega) (by omega), valid_f (by omega)]
  simp only [Option.bind_some, decide_eq_true_eq]
  by_cases h : V (Int.tdiv n g) (Int.tdiv d g)
  · rw [if_pos h]; exact ⟨_, _, _, rfl, a h⟩
  · rw [if_neg h]; exact ⟨_, _, _, rfl, b h⟩
theorem Red.neg {n d r1 r2 r3 : Int} (h : Red (-n) (-d) r1 r2 r3) : Red n d r1 r2 r3 := by
  rcases h with ⟨h1, h2, h3⟩ | ⟨h1, h2, h3, h4⟩
  · exact .inl ⟨h1, h2, by grind⟩
  · exact .inr ⟨h1, h2, h3, fun x y hv e => h4 x y hv (by grind)⟩
theorem reduced_red {k : Nat} {n d : Int} (hd : d ≠ 0) (hn1 : -4611686018427387904 ≤ n) (hn2 : n ≤ 4611686018427387904) (hd1 : -4611686018427387904 ≤ d) (hd2 : d ≤ 4611686018427387904) (hk : 4611686018427387909 < k) :
    ∃ r1 r2 r3, fraction_reduced.f k n d = some (r1, r2, r3) ∧ Red n d r1 r2 r3 := by
  unfold fraction_reduced.f
  by_cases h : d < 0
  · rw [if_pos h, w64 (by omega) (by omega), w64 (by omega) (by omega)]
    obtain ⟨r1, r2, r3, e, hr⟩ := j0_red (k := k) (n := -n) (d := -d) (by omega) (by omega) (by omega) (by omega) hk
    exact ⟨r1, r2, r3, e, hr.neg⟩
  · rw [if_neg h]
    exact j0_red (by omega) hn1 hn2 hd2 hk
/-- what an operation returns: the error 1 where an argument is not valid, else the value in lowest terms (with denominator 0: the error 2) -/
def OpR (a b c d n m r1 r2 r3 : Int) : Prop := (¬ (V a b ∧ V c d) ∧ r1 = 0 ∧ r2 = 0 ∧ r3 = 1) ∨ (V a b ∧ V c d ∧ m = 0 ∧ r1 = 0 ∧ r2 = 0 ∧ r3 = 2) ∨ (V a b ∧ V c d ∧ m ≠ 0 ∧ Red n m r1 r2 r3)
theorem OpR.unique {a b c d n m r1 r2 r3 s1 s2 s3 : Int} (h : OpR a b c d n m r1 r2 r3) (g : OpR a b c d n m s1 s2 s3) : r1 = s1 ∧ r2 = s2 ∧ r3 = s3 := by
  rcases h with ⟨h1, h2, h3, h4⟩ | ⟨h1, h2, h3, h4⟩ | ⟨h1, h2, h3, h4⟩ <;> rcases g with ⟨g1, g2, g3, g4⟩ | ⟨g1, g2, g3, g4⟩ | ⟨g1, g2, g3, g4⟩
  · omega
  · exact absurd ⟨g1, g2⟩ h1
  · exact absurd ⟨g1, g2⟩ h1
  · exact absurd ⟨h1, h2⟩ g1
  · omega
  · exact absurd h3 g3
  · exact absurd ⟨h1, h2⟩ g1
  · exact absurd g3 h3
  · exact Red.unique h3 h4 g4
theorem prod_bound {x y X Y : Int} (hx : -X ≤ x) (hx2 : x ≤ X) (hy : -Y ≤ y) (hy2 : y ≤ Y) : -(X * Y) ≤ x * y ∧ x * y ≤ X * Y := by
  have h1 : (X - x) * (Y - y) ≥ 0 := Int.mul_nonneg (by omega) (by omega)
  have h2 : (X + x) * (Y + y) ≥ 0 := Int.mul_nonneg (by omega) (by omega)
  have h3 : (X - x) * (Y + y) ≥ 0 := Int.mul_nonneg (by omega) (by omega)
  have h4 : (X + x) * (Y - y) ≥ 0 := Int.mul_nonneg (by omega) (by omega)
  constructor <;> grind
end Go.Proofs.YtkfibjmjamdigaaDoor.Q
