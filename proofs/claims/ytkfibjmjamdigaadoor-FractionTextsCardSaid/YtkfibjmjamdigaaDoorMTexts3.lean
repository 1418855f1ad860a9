/- Texts of this claim, joined: part 4 of 6. -/
import Derived.Test.YtkfibjmjamdigaaDoorMTexts0
import Derived.Test.YtkfibjmjamdigaaDoorMTexts2

namespace Go.Proofs.YtkfibjmjamdigaaDoor.Q
set_option linter.unusedVariables false
open Go.RowKit Go.Proofs.YtkfibjmjamdigaaDoorW.PrintWords Go.Proofs.YtkfibjmjamdigaaDoorW.PrintLast Go.Proofs.YtkfibjmjamdigaaDoorW.PrintMore
end Go.Proofs.YtkfibjmjamdigaaDoor.Q

namespace Go.Proofs.YtkfibjmjamdigaaDoor.Q
open Go.RowKit Go.Proofs.YtkfibjmjamdigaaDoorW.PrintWords Go.Proofs.YtkfibjmjamdigaaDoorW.PrintLast Go.Proofs.YtkfibjmjamdigaaDoorW.PrintMore
attribute [local go_sem] max2_int min2_int max_two min_two max_three min_three max_four min_four   -- for this text's walks alone
set_option linter.unusedVariables false
set_option linter.unusedSimpArgs false


mutual
def assessorref46_gcd.j0 : Nat → Int → Int → Option (Int)
 | 0, _, _ => none
 | k + 1, x0, x1 => assessorref46_gcd.l0 k x0 x1
def assessorref46_gcd.l0 : Nat → Int → Int → Option (Int)
 | 0, _, _ => none
 | k + 1, x0, x1 => if x1 > 0 then (if x1 = 0 then (none) else (assessorref46_gcd.l0 k x1 (Int.tmod x0 x1))) else (some x0)
end
def assessorref46_gcd.f (k : Nat) (a0 : Int) (a1 : Int) : Option (Int) := if a0 < 0 then (assessorref46_gcd.j0 k (wrap64 (-a0)) a1) else (assessorref46_gcd.j0 k a0 a1)
theorem assessorref46_gcd.mono_l : ∀ k, (∀ y0 y1, LeO (assessorref46_gcd.j0 k y0 y1) (assessorref46_gcd.j0 (k + 1) y0 y1)) ∧ (∀ y0 y1, LeO (assessorref46_gcd.l0 k y0 y1) (assessorref46_gcd.l0 (k + 1) y0 y1))
 | 0 => ⟨fun _ _ r h => by simp [assessorref46_gcd.j0] at h, fun _ _ r h => by simp [assessorref46_gcd.l0] at h⟩
 | k + 1 => by
  obtain ⟨ih0, ih1⟩ := assessorref46_gcd.mono_l k
  refine ⟨?_, ?_⟩
  ·
   intro y0 y1
   unfold assessorref46_gcd.j0
   repeat' first
   | (with_reducible exact ih0 _ _)
   | (with_reducible exact ih1 _ _)
   | (with_reducible exact LeO.refl _)
   | (with_reducible exact LeO.none _)
   | (with_reducible refine LeO.ite ?_ ?_)
   | (with_reducible refine LeO.bind ?_ (fun _ => ?_))
   | exact ih0 _ _
   | exact ih1 _ _
   | exact LeO.none _
   | refine LeO.ite ?_ ?_
   | refine LeO.bind ?_ (fun _ => ?_)
  ·
   intro y0 y1
   unfold assessorref46_gcd.l0
   repeat' first
   | (with_reducible exact ih0 _ _)
   | (with_reducible exact ih1 _ _)
   | (with_reducible exact LeO.refl _)
   | (with_reducible exact LeO.none _)
   | (with_reducible refine LeO.ite ?_ ?_)
   | (with_reducible refine LeO.bind ?_ (fun _ => ?_))
   | exact ih0 _ _
   | exact ih1 _ _
   | exact LeO.none _
   | refine LeO.ite ?_ ?_
   | refine LeO.bind ?_ (fun _ => ?_)
theorem assessorref46_gcd.mono : ∀ a0 a1 k, LeO (assessorref46_gcd.f k a0 a1) (assessorref46_gcd.f (k + 1) a0 a1) := by
 intro a0 a1 k
 obtain ⟨ih0, ih1⟩ := assessorref46_gcd.mono_l k
 unfold assessorref46_gcd.f
 repeat' first
   | (with_reducible exact ih0 _ _)
   | (with_reducible exact ih1 _ _)
   | (with_reducible exact LeO.refl _)
   | (with_reducible exact LeO.none _)
   | (with_reducible refine LeO.ite ?_ ?_)
   | (with_reducible refine LeO.bind ?_ (fun _ => ?_))
   | exact ih0 _ _
   | exact ih1 _ _
   | exact LeO.none _
   | refine LeO.ite ?_ ?_
   | refine LeO.bind ?_ (fun _ => ?_)
set_option maxHeartbeats 8000000 in
set_option maxRecDepth 100000 in
theorem assessorref46_gcd.calls (k : Nat) (a0 : Int) (a1 : Int) (r : Int) (w : World) (h : assessorref46_gcd.f k a0 a1 = some r) :
  Calls Tryd.prog 50 #[.int .i64 a0, .int .i64 a1] w fun e w' => e = .returned (.int .i64 r) ∧ Drawn0 w w' := by
 have H : (if a0 < 0 then (assessorref46_gcd.j0 k (wrap64 (-a0)) a1) else (assessorref46_gcd.j0 k a0 a1)) = some r := h
 clear h
 have HC3 := Aside0.mk H
 clear H
 go_enter Tryd.func50, Tryd.ntmps50
 go_upto_if 6 with (fail)
 repeat (go_quiet (fail); go_upto_if 6 with (fail))
 go_cut [0] (fun v0 wc => ∃ (kq : Nat) (x0_2 : Int), v0 = .int .i64 x0_2 ∧ Aside0 (assessorref46_gcd.j0 kq x0_2 a1 = some r) ∧ Aside0 (kq ≤ k) ∧ Drawn0 w wc)
 case first =>
  have H := HC3.out
  clear HC3
  by_cases c4 : a0 < 0
  ·
   rw [if_pos c4] at H
   have c4b0 : decide (a0 < 0) = true := decide_eq_true c4
   clear c4
   (first | rw [c4b0] | (simp only [i64_w, i32_w]; rw [c4b0]) | skip)
   have H' := Aside0.mk H
   clear H
   go_wp2
   repeat (go_quiet (fail); try go_wp2)
   go_meet
   case rel => exact ⟨_, (wrap64 (-a0)), (by first | rfl | (simp; done) | (simp [*]; done)), H', ⟨by first | omega | exact Nat.le_refl _⟩, by repeat (first | exact Drawn0.refl _ | apply Drawn0.step)⟩
  ·
   rw [if_neg c4] at H
   have c4b0 : decide (a0 < 0) = false := decide_eq_false c4
   clear c4
   (first | rw [c4b0] | (simp only [i64_w, i32_w]; rw [c4b0]) | skip)
   have H' := Aside0.mk H
   clear H
   go_wp2
   repeat (go_quiet (fail); try go_wp2)
   go_meet
   case rel => exact ⟨_, (a0), (by first | rfl | (simp; done) | (simp [*]; done)), H', ⟨by first | omega | exact Nat.le_refl _⟩, by repeat (first | exact Drawn0.refl _ | apply Drawn0.step)⟩
 case rest =>
  clear HC3
  try clear p2
  try clear c4
  try clear c4b0
  obtain ⟨kq, x0_2, rfl, HA, HJ2, ⟨mc2, rfl⟩⟩ := hcut
  cases kq with
  | zero => exact absurd HA.out (by simp [assessorref46_gcd.j0])
  | succ kj2 =>
   have H := HA.out
   clear HA
   simp only [assessorref46_gcd.j0] at H
   have H' := Aside0.mk H
   clear H
   go_wp2
   repeat (go_quiet (fail); try go_wp2)
   go_loopg [0, 1] kj2 (fun kq v0 v1 w' => ∃ (x0_2 : Int) (x1_2 : Int), v0 = .int .i64 x0_2 ∧ v1 = .int .i64 x1_2 ∧ Aside0 (assessorref46_gcd.l0 kq x0_2 x1_2 = some r) ∧ Aside0 (kq ≤ kj2) ∧ Drawn0 w w')
   case atStart => exact ⟨(x0_2), (a1), (by first | rfl | (simp; done) | (simp [*]; done)), (by first | rfl | (simp; done) | (simp [*]; done)), H', ⟨Nat.le_refl _⟩, by repeat (first | exact Drawn0.refl _ | apply Drawn0.step)⟩
   case round =>
    clear H'
    try clear c2
    try clear p2
    try clear c4
    try clear c4b0
    try clear p2
    obtain ⟨x0_2, x1_2, rfl, rfl, HA, HK2, ⟨m2, rfl⟩⟩ := hrel
    cases gk with
    | zero => exact absurd HA.out (by simp [assessorref46_gcd.l0])
    | succ k2 =>
     have H := HA.out
     clear HA
     simp only [assessorref46_gcd.l0] at H
     by_cases c5 : x1_2 > 0
     ·
      rw [if_pos c5] at H
      have c5b0 : decide (0 < x1_2) = true := decide_eq_true c5
      clear c5
      by_cases c6 : x1_2 = 0
      ·
       rw [if_pos c6] at H
       exact absurd H (by simp)
      ·
       rw [if_neg c6] at H
       have c6b0 : (x1_2 == 0) = false := beq_eq_false_iff_ne.mpr c6
       have c6b1 : (x1_2 != 0) = true := bne_iff_ne.mpr c6
       have H' := Aside0.mk H
       clear H
       go_wp2
       repeat (go_quiet (fail); try go_wp2)
       go_roundg k2
       case measure => have := HJ2.out; have := HK2.out; omega
       case rel => exact ⟨(x1_2), (Int.tmod x0_2 x1_2), (by first | rfl | (simp; done) | (simp [*]; done)), (by first | rfl | (simp; done) | (simp [*]; done)), H', ⟨by have := HJ2.out; have := HK2.out; omega⟩, by repeat (first | exact Drawn0.refl _ | apply Drawn0.step)⟩
     ·
      rw [if_neg c5] at H
      have c5b0 : decide (0 < x1_2) = false := decide_eq_false c5
      clear c5
      obtain rfl := Option.some.inj H
      simp only [Option.some.injEq, Prod.mk.injEq] at H
      obtain ⟨rfl⟩ := H
      go_wp2
      repeat (go_quiet (fail); try go_wp2)
      go_ret
      exact ⟨by first | rfl | (simp; done) | (simp [*]; done), by repeat (first | exact Drawn0.refl _ | apply Drawn0.step)⟩

end Go.Proofs.YtkfibjmjamdigaaDoor.Q

namespace Go.Proofs.YtkfibjmjamdigaaDoor.Q
open Go.RowKit Go.Proofs.YtkfibjmjamdigaaDoorW.PrintWords Go.Proofs.YtkfibjmjamdigaaDoorW.PrintLast Go.Proofs.YtkfibjmjamdigaaDoorW.PrintMore
attribute [local go_sem] max2_int min2_int max_two min_two max_three min_three max_four min_four   -- for this text's walks alone
set_option linter.unusedVariables false
set_option linter.unusedSimpArgs false


def assessorref46_reduce.f (k : Nat) (a0 : Int) (a1 : Int) : Option (Int × Int × Int) := if a1 < 0 then ((assessorref46_gcd.f k (wrap64 (-a0)) (wrap64 (-a1))).bind fun t134 => (if t134 = 0 then (none) else (if (wrap64 (Int.tdiv (wrap64 (-a0)) t134)) < (-1000000000) then (some (0, 0, 2)) else (if (wrap64 (Int.tdiv (wrap64 (-a0)) t134)) > 1000000000 then (some (0, 0, 2)) else (if (wrap64 (Int.tdiv (wrap64 (-a1)) t134)) > 1000000 then (some (0, 0, 2)) else (some (wrap64 (Int.tdiv (wrap64 (-a0)) t134), wrap64 (Int.tdiv (wrap64 (-a1)) t134), 0))))))) else ((assessorref46_gcd.f k a0 a1).bind fun t136 => (if t136 = 0 then (none) else (if (wrap64 (Int.tdiv a0 t136)) < (-1000000000) then (some (0, 0, 2)) else (if (wrap64 (Int.tdiv a0 t136)) > 1000000000 then (some (0, 0, 2)) else (if (wrap64 (Int.tdiv a1 t136)) > 1000000 then (some (0, 0, 2)) else (some (wrap64 (Int.tdiv a0 t136), wrap64 (Int.tdiv a1 t136), 0)))))))
theorem assessorref46_reduce.mono : ∀ a0 a1 k, LeO (assessorref46_reduce.f k a0 a1) (assessorref46_reduce.f (k + 1) a0 a1) := by
 intro a0 a1 k
 unfold assessorref46_reduce.f
 repeat' first
   | (with_reducible exact assessorref46_gcd.mono _ _ _)
   | (with_reducible exact LeO.refl _)
   | (with_reducible exact LeO.none _)
   | (with_reducible refine LeO.ite ?_ ?_)
   | (with_reducible refine LeO.bind ?_ (fun _ => ?_))
   | exact assessorref46_gcd.mono _ _ _
   | exact LeO.none _
   | refine LeO.ite ?_ ?_
   | refine LeO.bind ?_ (fun _ => ?_)
def assessorref46_reduce.T4 : Bool × List (List Nat × List Nat) := (true, [([], []), ([], []), ([0, 1], [0, 1]), ([], []), ([], []), ([3, 4], [3, 4]), ([2, 5], [2, 5]), ([], []), ([7, 6, 0, 1, 2, 3, 4, 5, 6, 7], [6, 7])])
def assessorref46_reduce.B4 : List Nat := [0, 0, 3, 0, 0, 24, 63, 0, 255]
theorem assessorref46_reduce.tab4 : rtab .any (opsOf Tryd.f43 4) = assessorref46_reduce.T4 := by kernel_rfl
theorem assessorref46_reduce.bits4 : waitsOk assessorref46_reduce.T4.2 assessorref46_reduce.B4 = true := by kernel_rfl
set_option maxHeartbeats 8000000 in
set_option maxRecDepth 100000 in
theorem assessorref46_reduce.calls (k : Nat) (a0 : Int) (a1 : Int) (r1 : Int) (r2 : Int) (r3 : Int) (w : World) (h : assessorref46_reduce.f k a0 a1 = some (r1, r2, r3)) :
  Calls Tryd.prog 43 #[.int .i64 a0, .int .i64 a1] w fun e w' => e = .returned (.tuple #[.agg #[.int .i64 r1, .int .i64 r2], .int .i64 r3]) ∧ Below w.heap.size w w' := by
 have hu23 := Tryd.underlying23
 have HB := Aside0.mk (Below.refl w.heap.size w)
 have H : (if a1 < 0 then ((assessorref46_gcd.f k (wrap64 (-a0)) (wrap64 (-a1))).bind fun t134 => (if t134 = 0 then (none) else (if (wrap64 (Int.tdiv (wrap64 (-a0)) t134)) < (-1000000000) then (some (0, 0, 2)) else (if (wrap64 (Int.tdiv (wrap64 (-a0)) t134)) > 1000000000 then (some (0, 0, 2)) else (if (wrap64 (Int.tdiv (wrap64 (-a1)) t134)) > 1000000 then (some (0, 0, 2)) else (some (wrap64 (Int.tdiv (wrap64 (-a0)) t134), wrap64 (Int.tdiv (wrap64 (-a1)) t134), 0))))))) else ((assessorref46_gcd.f k a0 a1).bind fun t136 => (if t136 = 0 then (none) else (if (wrap64 (Int.tdiv a0 t136)) < (-1000000000) then (some (0, 0, 2)) else (if (wrap64 (Int.tdiv a0 t136)) > 1000000000 then (some (0, 0, 2)) else (if (wrap64 (Int.tdiv a1 t136)) > 1000000 then (some (0, 0, 2)) else (some (wrap64 (Int.tdiv a0 t136), wrap64 (Int.tdiv a1 t136), 0)))))))) = some (r1, r2, r3) := h
 clear h
 by_cases c3 : a1 < 0
 ·
  rw [if_pos c3] at H
  have c3b0 : decide (a1 < 0) = true := decide_eq_true c3
  clear c3
  replace H := Option.bind_eq_some_iff.mp H
  obtain ⟨t134, A40, H⟩ := H
  replace H : (if t134 = 0 then (none) else (if (wrap64 (Int.tdiv (wrap64 (-a0)) t134)) < (-1000000000) then (some (0, 0, 2)) else (if (wrap64 (Int.tdiv (wrap64 (-a0)) t134)) > 1000000000 then (some (0, 0, 2)) else (if (wrap64 (Int.tdiv (wrap64 (-a1)) t134)) > 1000000 then (some (0, 0, 2)) else (some (wrap64 (Int.tdiv (wrap64 (-a0)) t134), wrap64 (Int.tdiv (wrap64 (-a1)) t134), 0)))))) = some (r1, r2, r3) := H
  have A4 := Aside0.mk A40
  clear A40
  by_cases c5 : t134 = 0
  ·
   rw [if_pos c5] at H
   exact absurd H (by simp)
  ·
   rw [if_neg c5] at H
   have c5b0 : (t134 == 0) = false := beq_eq_false_iff_ne.mpr c5
   have c5b1 : (t134 != 0) = true := bne_iff_ne.mpr c5
   by_cases c6 : (wrap64 (Int.tdiv (wrap64 (-a0)) t134)) < (-1000000000)
   ·
    rw [if_pos c6] at H
    have c6b0 : decide ((wrap64 (Int.tdiv (wrap64 (-a0)) t134)) < (-1000000000)) = true := decide_eq_true c6
    clear c6
    simp only [Option.some.injEq, Prod.mk.injEq] at H
    obtain ⟨rfl, rfl, rfl⟩ := H
    go_enter Tryd.func43, Tryd.ntmps43
    try go_wp2_with (first | ((with_reducible refine gate_dst (N := 4) rfl ?_); refine box_event ?hg (N := 4) ?hd (cs := #[.int .i64 0, .int .i64 0]) (t := 23) ?hr ?_; (case hd => rfl); (case hg => rfl); (case hr => first | (go_simp; done) | (go_simp; rfl)); intro gb133 hg w7 hbox hb; have n0_ := Aside0.mk (below_step (by repeat (first | (with_reducible first | exact HB.out | apply b4 | apply b5 | apply b6) | exact HB.out)) hb); have n1_ := Aside0.mk (hbox); have n2_ := Aside0.mk ((by rw [hg]; exact (below_size (by repeat (first | (with_reducible first | exact HB.out | apply b4 | apply b5 | apply b6) | exact HB.out))) : w.heap.size ≤ gb133)); have n3_ := Aside0.mk ((by rw [hg]; exact (below_size (by repeat (first | (with_reducible first | exact HB.out | apply b4 | apply b5 | apply b6) | exact HB.out))) : w.heap.size ≤ gb133)); clear HB; have HB := n0_; have BK133 := n1_; have GW133 := n2_; have GE133 := n3_; clear n0_ n1_ n2_ n3_; clear hb hbox hg) | ((with_reducible refine gate_callee (f := 50) rfl ?_); refine goesL_ (some 16) rfl rfl Tryd.func50 (by kernel_rfl) rfl #[.int .i64 (wrap64 (-a0)), .int .i64 (wrap64 (-a1))] rfl (by (try simp only [List.map_toArray, List.map_cons, List.map_nil]); first | done | rfl | (simp only [List.length_drop, List.length_take]; rfl)) ?_; (with_reducible refine (assessorref46_gcd.calls k (wrap64 (-a0)) (wrap64 (-a1)) t134 _ A4.out).mono ?_); rintro e w' ⟨rfl, ⟨nd, rfl⟩⟩; refine ⟨_, rfl, ?_⟩; (try (rw [drewN_self w7]; generalize hq_ : World.drewN w7 _ = w7; have n0_ : Aside0 (w7.heap[gb133]? = some (.cells #[.int .i64 0, .int .i64 0] 23 (0, 0))) := ⟨by rw [← hq_]; exact (by (with_reducible repeat first | apply b1 | apply b2 | apply b3); exact BK133.out)⟩; have n1_ : Aside0 (Below w.heap.size w w7) := ⟨by rw [← hq_]; exact (by repeat (first | (with_reducible first | exact HB.out | apply b4 | apply b5 | apply b6 | refine below_set ?_ GE133.out) | exact HB.out))⟩; clear BK133 HB hq_; have BK133 := n0_; have HB := n1_; clear n0_ n1_))))
    have n0_ := Aside0.mk (blk_drew BK133.out)
    have n1_ := Aside0.mk (below_drew1 HB.out)
    clear BK133
    clear HB
    have BK133 := n0_
    have HB := n1_
    clear n0_ n1_
    refine start_ (n := 9) (S := fun w' => True) (ds := []) #[false, false, false, false, false, false, false, false, false] (by kernel_rfl) rfl rfl trivial (fun hHeld => ?_); refine with_tabW assessorref46_reduce.tab4 assessorref46_reduce.bits4 (fun HT_ HW_ => ?_)
    generalize w7.drew = w8 at BK133 HB hHeld ⊢
    refine pure_ (i := 0) (N := some 17) (v := ?_) (a' := ?_) #[true, false, false, false, false, false, false, false, false] rfl rfl (any_of HT_.out (by kernel_rfl)) (fun _ _ _ h => h) (Or.inl ⟨by rfl, ?_⟩) ?_ ?_
    rotate_left
    ·
     intro w'
     go_simp
     with_reducible rfl
    rotate_left
    ·
     simp only [Act.put, List.setIfInBounds_toArray, List.set_cons_zero, List.set_cons_succ, i64_w, i32_w]
     rfl
    refine pure_ (i := 1) (N := some 18) (v := ?_) (a' := ?_) #[true, true, false, false, false, false, false, false, false] rfl rfl (any_of HT_.out (by kernel_rfl)) (fun _ _ _ h => h) (Or.inl ⟨by rfl, ?_⟩) ?_ ?_
    rotate_left
    ·
     intro w'
     go_simp
     with_reducible rfl
    rotate_left
    ·
     simp only [Act.put, List.setIfInBounds_toArray, List.set_cons_zero, List.set_cons_succ, i64_w, i32_w]
     rfl
    refine pure_ (i := 2) (N := some 19) (v := ?_) (a' := ?_) #[true, true, true, false, false, false, false, false, false] rfl rfl (any_of HT_.out (by kernel_rfl)) (fun _ _ _ h => h) (Or.inl ⟨by rfl, ?_⟩) ?_ ?_
    rotate_left
    ·
     intro w'
     go_simp
     with_reducible rfl
    rotate_left
    ·
     simp only [Act.put, List.setIfInBounds_toArray, List.set_cons_zero, List.set_cons_succ, i64_w, i32_w]
     rfl
    refine pure_ (i := 3) (N := some 20) (v := ?_) (a' := ?_) #[true, true, true, true, false, false, false, false, false] rfl rfl (any_of HT_.out (by kernel_rfl)) (fun _ _ _ h => h) (Or.inl ⟨by rfl, ?_⟩) ?_ ?_
    rotate_left
    ·
     intro w'
     go_simp
     with_reducible rfl
    rotate_left
    ·
     simp only [Act.put, List.setIfInBounds_toArray, List.set_cons_zero, List.set_cons_succ, i64_w, i32_w]
     rfl
    refine pure_ (i := 4) (N := some 21) (v := ?_) (a' := ?_) #[true, true, true, true, true, false, false, false, false] rfl rfl (any_of HT_.out (by kernel_rfl)) (fun _ _ _ h => h) (Or.inl ⟨by rfl, ?_⟩) ?_ ?_
    rotate_left
    ·
     intro w'
     go_simp
     with_reducible rfl
    rotate_left
    ·
     simp only [Act.put, List.setIfInBounds_toArray, List.set_cons_zero, List.set_cons_succ, i64_w, i32_w]
     rfl
    refine pure_ (i := 5) (N := some 22) (v := ?_) (a' := ?_) #[true, true, true, true, true, true, false, false, false] rfl rfl (any_of HT_.out (by kernel_rfl)) (fun _ _ _ h => h) (Or.inl ⟨by rfl, ?_⟩) ?_ ?_
    rotate_left
    ·
     intro w'
     go_simp
     with_reducible rfl
    rotate_left
    ·
     simp only [Act.put, List.setIfInBounds_toArray, List.set_cons_zero, List.set_cons_succ, i64_w, i32_w]
     rfl
    refine pure_ (i := 6) (N := some 23) (v := ?_) (a' := ?_) #[true, true, true, true, true, true, true, false, false] rfl rfl (any_of HT_.out (by kernel_rfl)) (fun _ _ _ h => h) (Or.inl ⟨by rfl, ?_⟩) ?_ ?_
    rotate_left
    ·
     intro w'
     go_simp
     with_reducible rfl
    rotate_left
    ·
     simp only [Act.put, List.setIfInBounds_toArray, List.set_cons_zero, List.set_cons_succ, i64_w, i32_w]
     rfl
    refine one_ (i := 7) (N := some 7) #[true, true, true, true, true, true, true, true, false] rfl rfl (one_of HT_.out (by kernel_rfl)) (by decide) (fun K hK => ?_)
    refine box_step ?hg (N := 7) ?hd (cs := #[.int .i64 0, .int .i64 0]) (t := 23) ?hr ?_; (case hd => rfl); (case hg => rfl); (case hr => first | (go_simp; done) | (go_simp; rfl))
    intro gb135 hg w9 hbox hb
    have n0_ := Aside0.mk (blk_below (g := gb133) (o := .cells #[.int .i64 0, .int .i64 0] 23 (0, 0)) (by (with_reducible repeat first | apply b1 | apply b2 | apply b3); exact BK133.out) hb)
    have n1_ := Aside0.mk (below_step (by repeat (first | (with_reducible first | exact HB.out | apply b4 | apply b5 | apply b6 | refine below_set ?_ GE133.out) | exact HB.out)) hb)
    have n2_ := Aside0.mk (hbox)
    have n3_ := Aside0.mk ((by rw [hg]; exact (below_size (by repeat (first | (with_reducible first | exact HB.out | apply b4 | apply b5 | apply b6 | refine below_set ?_ GE133.out) | exact HB.out))) : w.heap.size ≤ gb135))
    have n4_ := Aside0.mk ((by rw [hg]; exact (below_size (by repeat (first | (with_reducible first | exact HB.out | apply b4 | apply b5 | apply b6 | refine below_set ?_ GE133.out) | exact HB.out))) : w.heap.size ≤ gb135))
    have n5_ := Aside0.mk ((by rw [hg]; exact Nat.ne_of_lt (blk_lt (g := gb133) (o := .cells #[.int .i64 0, .int .i64 0] 23 (0, 0)) (by (with_reducible repeat first | apply b1 | apply b2 | apply b3); exact BK133.out)) : gb133 ≠ gb135))
    have n6_ := Aside0.mk ((by rw [hg]; exact Nat.ne_of_gt (blk_lt (g := gb133) (o := .cells #[.int .i64 0, .int .i64 0] 23 (0, 0)) (by (with_reducible repeat first | apply b1 | apply b2 | apply b3); exact BK133.out)) : gb135 ≠ gb133))
    clear BK133
    clear HB
    have BK133 := n0_
    have HB := n1_
    have BK135 := n2_
    have GW135 := n3_
    have GE135 := n4_
    have NB133_135 := n5_
    have NB135_133 := n6_
    clear n0_ n1_ n2_ n3_ n4_ n5_ n6_
    clear hb hbox hg
    refine hK.out _ _ trivial (fun hHeld => ?_)
    clear hK K
    refine norm_ (a' := ?_) ?_ ?_
    rotate_left
    ·
     show Act.put _ (some 7) _ = _
     simp only [Act.put, List.setIfInBounds_toArray, List.set_cons_zero, List.set_cons_succ, i64_w, i32_w]
     rfl
    refine one_ (i := 8) (N := none) #[true, true, true, true, true, true, true, true, true] rfl rfl (one_of HT_.out (by kernel_rfl)) (by decide) (fun K hK => ?_)
    have hs10 : w9.cell? ⟨gb135, 0, none⟩ = some (.int .i64 0) := (blk_cell BK135.out 0).trans rfl
    have hfs10 := blk_frozen BK135.out 0
    have hns10_0 := NB133_135.out
    have hms10_0 := NB135_133.out
    have hs11 : w9.cell? ⟨gb135, 1, none⟩ = some (.int .i64 0) := (blk_cell BK135.out 1).trans rfl
    have hfs11 := blk_frozen BK135.out 1
    have hns11_0 := NB133_135.out
    have hms11_0 := NB135_133.out
    refine skip_ (w1 := ?_) (by rfl) rfl ?_ ?_
    rotate_left
    ·
     go_simp
     rfl
    refine hK.out _ _ trivial (fun hHeld => ?_)
    clear hK K
    refine done_ (done_of HT_.out (by kernel_rfl)) ?_
    have hnb12 := NB135_133.out
    have hnc12 := NB133_135.out
    have hcz13_0 : w9.cell? ⟨gb135, 0, none⟩ = some (.int .i64 0) := (blk_cell BK135.out 0).trans rfl
    have hcz13_1 : w9.cell? ⟨gb135, 1, none⟩ = some (.int .i64 0) := (blk_cell BK135.out 1).trans rfl
    have hfz13_0 := blk_frozen BK135.out 0
    have hfz13_1 := blk_frozen BK135.out 1
    have hcz14_0 : w9.cell? ⟨gb133, 0, none⟩ = some (.int .i64 0) := (blk_cell BK133.out 0).trans rfl
    have hcz14_1 : w9.cell? ⟨gb133, 1, none⟩ = some (.int .i64 0) := (blk_cell BK133.out 1).trans rfl
    have hfz14_0 := blk_frozen BK133.out 0
    have hfz14_1 := blk_frozen BK133.out 1
    try go_wp2
    refine bodyPost_ret (results_ct rfl _ _ gb133 23 #[.int .i64 0, .int .i64 0] (0, 0) _ rfl (by (with_reducible repeat first | apply b1 | apply b2 | apply b3); refine blk_put (cs := #[.int .i64 0, .int .i64 0]) ?_ 1 _ rfl; (with_reducible repeat first | apply b1 | apply b2 | apply b3); refine blk_put (cs := #[.int .i64 0, .int .i64 0]) ?_ 0 _ rfl; (with_reducible repeat first | apply b1 | apply b2 | apply b3); refine blk_far ?_ NB133_135.out _; (with_reducible repeat first | apply b1 | apply b2 | apply b3); refine blk_far ?_ NB133_135.out _; (with_reducible repeat first | apply b1 | apply b2 | apply b3); exact BK133.out) Tryd.underlying23 rfl (by kernel_rfl)) rfl ?_
    exact ⟨by first | rfl | (simp [errW_none, errW_some] <;> rfl) | (simp [*, errW_none, errW_some] <;> rfl), by repeat (first | (with_reducible first | exact HB.out | apply b4 | apply b5 | apply b6 | refine below_set ?_ GE133.out | refine below_set ?_ GE135.out) | exact HB.out)⟩
   ·
    rw [if_neg c6] at H
    have c6b0 : decide ((wrap64 (Int.tdiv (wrap64 (-a0)) t134)) < (-1000000000)) = false := decide_eq_false c6
    clear c6
    by_cases c15 : (wrap64 (Int.tdiv (wrap64 (-a0)) t134)) > 1000000000
    ·
     rw [if_pos c15] at H
     have c15b0 : decide (1000000000 < (wrap64 (Int.tdiv (wrap64 (-a0)) t134))) = true := decide_eq_true c15
     clear c15
     simp only [Option.some.injEq, Prod.mk.injEq] at H
     obtain ⟨rfl, rfl, rfl⟩ := H
     go_enter Tryd.func43, Tryd.ntmps43
     try go_wp2_with (first | ((with_reducible refine gate_dst (N := 4) rfl ?_); refine box_event ?hg (N := 4) ?hd (cs := #[.int .i64 0, .int .i64 0]) (t := 23) ?hr ?_; (case hd => rfl); (case hg => rfl); (case hr => first | (go_simp; done) | (go_simp; rfl)); intro gb133 hg w16 hbox hb; have n0_ := Aside0.mk (below_step (by repeat (first | (with_reducible first | exact HB.out | apply b4 | apply b5 | apply b6) | exact HB.out)) hb); have n1_ := Aside0.mk (hbox); have n2_ := Aside0.mk ((by rw [hg]; exact (below_size (by repeat (first | (with_reducible first | exact HB.out | apply b4 | apply b5 | apply b6) | exact HB.out))) : w.heap.size ≤ gb133)); have n3_ := Aside0.mk ((by rw [hg]; exact (below_size (by repeat (first | (with_reducible first | exact HB.out | apply b4 | apply b5 | apply b6) | exact HB.out))) : w.heap.size ≤ gb133)); clear HB; have HB := n0_; have BK133 := n1_; have GW133 := n2_; have GE133 := n3_; clear n0_ n1_ n2_ n3_; clear hb hbox hg) | ((with_reducible refine gate_callee (f := 50) rfl ?_); refine goesL_ (some 16) rfl rfl Tryd.func50 (by kernel_rfl) rfl #[.int .i64 (wrap64 (-a0)), .int .i64 (wrap64 (-a1))] rfl (by (try simp only [List.map_toArray, List.map_cons, List.map_nil]); first | done | rfl | (simp only [List.length_drop, List.length_take]; rfl)) ?_; (with_reducible refine (assessorref46_gcd.calls k (wrap64 (-a0)) (wrap64 (-a1)) t134 _ A4.out).mono ?_); rintro e w' ⟨rfl, ⟨nd, rfl⟩⟩; refine ⟨_, rfl, ?_⟩; (try (rw [drewN_self w16]; generalize hq_ : World.drewN w16 _ = w16; have n0_ : Aside0 (w16.heap[gb133]? = some (.cells #[.int .i64 0, .int .i64 0] 23 (0, 0))) := ⟨by rw [← hq_]; exact (by (with_reducible repeat first | apply b1 | apply b2 | apply b3); exact BK133.out)⟩; have n1_ : Aside0 (Below w.heap.size w w16) := ⟨by rw [← hq_]; exact (by repeat (first | (with_reducible first | exact HB.out | apply b4 | apply b5 | apply b6 | refine below_set ?_ GE133.out) | exact HB.out))⟩; clear BK133 HB hq_; have BK133 := n0_; have HB := n1_; clear n0_ n1_))))
     have n0_ := Aside0.mk (blk_drew BK133.out)
     have n1_ := Aside0.mk (below_drew1 HB.out)
     clear BK133
     clear HB
     have BK133 := n0_
     have HB := n1_
     clear n0_ n1_
     refine start_ (n := 9) (S := fun w' => True) (ds := []) #[false, false, false, false, false, false, false, false, false] (by kernel_rfl) rfl rfl trivial (fun hHeld => ?_); refine with_tabW assessorref46_reduce.tab4 assessorref46_reduce.bits4 (fun HT_ HW_ => ?_)
     generalize w16.drew = w17 at BK133 HB hHeld ⊢
     refine pure_ (i := 0) (N := some 17) (v := ?_) (a' := ?_) #[true, false, false, false, false, false, false, false, false] rfl rfl (any_of HT_.out (by kernel_rfl)) (fun _ _ _ h => h) (Or.inl ⟨by rfl, ?_⟩) ?_ ?_
     rotate_left
     ·
      intro w'
      go_simp
      with_reducible rfl
     rotate_left
     ·
      simp only [Act.put, List.setIfInBounds_toArray, List.set_cons_zero, List.set_cons_succ, i64_w, i32_w]
      rfl
     refine pure_ (i := 1) (N := some 18) (v := ?_) (a' := ?_) #[true, true, false, false, false, false, false, false, false] rfl rfl (any_of HT_.out (by kernel_rfl)) (fun _ _ _ h => h) (Or.inl ⟨by rfl, ?_⟩) ?_ ?_
     rotate_left
     ·
      intro w'
      go_simp
      with_reducible rfl
     rotate_left
     ·
      simp only [Act.put, List.setIfInBounds_toArray, List.set_cons_zero, List.set_cons_succ, i64_w, i32_w]
      rfl
     refine pure_ (i := 2) (N := some 19) (v := ?_) (a' := ?_) #[true, true, true, false, false, false, false, false, false] rfl rfl (any_of HT_.out (by kernel_rfl)) (fun _ _ _ h => h) (Or.inl ⟨by rfl, ?_⟩) ?_ ?_
     rotate_left
     ·
      intro w'
      go_simp
      with_reducible rfl
     rotate_left
     ·
      simp only [Act.put, List.setIfInBounds_toArray, List.set_cons_zero, List.set_cons_succ, i64_w, i32_w]
      rfl
     refine pure_ (i := 3) (N := some 20) (v := ?_) (a' := ?_) #[true, true, true, true, false, false, false, false, false] rfl rfl (any_of HT_.out (by kernel_rfl)) (fun _ _ _ h => h) (Or.inl ⟨by rfl, ?_⟩) ?_ ?_
     rotate_left
     ·
      intro w'
      go_simp
      with_reducible rfl
     rotate_left
     ·
      simp only [Act.put, List.setIfInBounds_toArray, List.set_cons_zero, List.set_cons_succ, i64_w, i32_w]
      rfl
     refine pure_ (i := 4) (N := some 21) (v := ?_) (a' := ?_) #[true, true, true, true, true, false, false, false, false] rfl rfl (any_of HT_.out (by kernel_rfl)) (fun _ _ _ h => h) (Or.inl ⟨by rfl, ?_⟩) ?_ ?_
     rotate_left
     ·
      intro w'
      go_simp
      with_reducible rfl
     rotate_left
     ·
      simp only [Act.put, List.setIfInBounds_toArray, List.set_cons_zero, List.set_cons_succ, i64_w, i32_w]
      rfl
     refine pure_ (i := 5) (N := some 22) (v := ?_) (a' := ?_) #[true, true, true, true, true, true, false, false, false] rfl rfl (any_of HT_.out (by kernel_rfl)) (fun _ _ _ h => h) (Or.inl ⟨by rfl, ?_⟩) ?_ ?_
     rotate_left
     ·
      intro w'
      go_simp
      with_reducible rfl
     rotate_left
     ·
      simp only [Act.put, List.setIfInBounds_toArray, List.set_cons_zero, List.set_cons_succ, i64_w, i32_w]
      rfl
     refine pure_ (i := 6) (N := some 23) (v := ?_) (a' := ?_) #[true, true, true, true, true, true, true, false, false] rfl rfl (any_of HT_.out (by kernel_rfl)) (fun _ _ _ h => h) (Or.inl ⟨by rfl, ?_⟩) ?_ ?_
     rotate_left
     ·
      intro w'
      go_simp
      with_reducible rfl
     rotate_left
     ·
      simp only [Act.put, List.setIfInBounds_toArray, List.set_cons_zero, List.set_cons_succ, i64_w, i32_w]
      rfl
     refine one_ (i := 7) (N := some 7) #[true, true, true, true, true, true, true, true, false] rfl rfl (one_of HT_.out (by kernel_rfl)) (by decide) (fun K hK => ?_)
     refine box_step ?hg (N := 7) ?hd (cs := #[.int .i64 0, .int .i64 0]) (t := 23) ?hr ?_; (case hd => rfl); (case hg => rfl); (case hr => first | (go_simp; done) | (go_simp; rfl))
     intro gb135 hg w18 hbox hb
     have n0_ := Aside0.mk (blk_below (g := gb133) (o := .cells #[.int .i64 0, .int .i64 0] 23 (0, 0)) (by (with_reducible repeat first | apply b1 | apply b2 | apply b3); exact BK133.out) hb)
     have n1_ := Aside0.mk (below_step (by repeat (first | (with_reducible first | exact HB.out | apply b4 | apply b5 | apply b6 | refine below_set ?_ GE133.out) | exact HB.out)) hb)
     have n2_ := Aside0.mk (hbox)
     have n3_ := Aside0.mk ((by rw [hg]; exact (below_size (by repeat (first | (with_reducible first | exact HB.out | apply b4 | apply b5 | apply b6 | refine below_set ?_ GE133.out) | exact HB.out))) : w.heap.size ≤ gb135))
     have n4_ := Aside0.mk ((by rw [hg]; exact (below_size (by repeat (first | (with_reducible first | exact HB.out | apply b4 | apply b5 | apply b6 | refine below_set ?_ GE133.out) | exact HB.out))) : w.heap.size ≤ gb135))
     have n5_ := Aside0.mk ((by rw [hg]; exact Nat.ne_of_lt (blk_lt (g := gb133) (o := .cells #[.int .i64 0, .int .i64 0] 23 (0, 0)) (by (with_reducible repeat first | apply b1 | apply b2 | apply b3); exact BK133.out)) : gb133 ≠ gb135))
     have n6_ := Aside0.mk ((by rw [hg]; exact Nat.ne_of_gt (blk_lt (g := gb133) (o := .cells #[.int .i64 0, .int .i64 0] 23 (0, 0)) (by (with_reducible repeat first | apply b1 | apply b2 | apply b3); exact BK133.out)) : gb135 ≠ gb133))
     clear BK133
     clear HB
     have BK133 := n0_
     have HB := n1_
     have BK135 := n2_
     have GW135 := n3_
     have GE135 := n4_
     have NB133_135 := n5_
     have NB135_133 := n6_
     clear n0_ n1_ n2_ n3_ n4_ n5_ n6_
     clear hb hbox hg
     refine hK.out _ _ trivial (fun hHeld => ?_)
     clear hK K
     refine norm_ (a' := ?_) ?_ ?_
     rotate_left
     ·
      show Act.put _ (some 7) _ = _
      simp only [Act.put, List.setIfInBounds_toArray, List.set_cons_zero, List.set_cons_succ, i64_w, i32_w]
      rfl
     refine one_ (i := 8) (N := none) #[true, true, true, true, true, true, true, true, true] rfl rfl (one_of HT_.out (by kernel_rfl)) (by decide) (fun K hK => ?_)
     have hs19 : w18.cell? ⟨gb135, 0, none⟩ = some (.int .i64 0) := (blk_cell BK135.out 0).trans rfl
     have hfs19 := blk_frozen BK135.out 0
     have hns19_0 := NB133_135.out
     have hms19_0 := NB135_133.out
     have hs20 : w18.cell? ⟨gb135, 1, none⟩ = some (.int .i64 0) := (blk_cell BK135.out 1).trans rfl
     have hfs20 := blk_frozen BK135.out 1
     have hns20_0 := NB133_135.out
     have hms20_0 := NB135_133.out
     refine skip_ (w1 := ?_) (by rfl) rfl ?_ ?_
     rotate_left
     ·
      go_simp
      rfl
     refine hK.out _ _ trivial (fun hHeld => ?_)
     clear hK K
     refine done_ (done_of HT_.out (by kernel_rfl)) ?_
     have hnb21 := NB135_133.out
     have hnc21 := NB133_135.out
     have hcz22_0 : w18.cell? ⟨gb135, 0, none⟩ = some (.int .i64 0) := (blk_cell BK135.out 0).trans rfl
     have hcz22_1 : w18.cell? ⟨gb135, 1, none⟩ = some (.int .i64 0) := (blk_cell BK135.out 1).trans rfl
     have hfz22_0 := blk_frozen BK135.out 0
     have hfz22_1 := blk_frozen BK135.out 1
     have hcz23_0 : w18.cell? ⟨gb133, 0, none⟩ = some (.int .i64 0) := (blk_cell BK133.out 0).trans rfl
     have hcz23_1 : w18.cell? ⟨gb133, 1, none⟩ = some (.int .i64 0) := (blk_cell BK133.out 1).trans rfl
     have hfz23_0 := blk_frozen BK133.out 0
     have hfz23_1 := blk_frozen BK133.out 1
     try go_wp2
     refine bodyPost_ret (results_ct rfl _ _ gb133 23 #[.int .i64 0, .int .i64 0] (0, 0) _ rfl (by (with_reducible repeat first | apply b1 | apply b2 | apply b3); refine blk_put (cs := #[.int .i64 0, .int .i64 0]) ?_ 1 _ rfl; (with_reducible repeat first | apply b1 | apply b2 | apply b3); refine blk_put (cs := #[.int .i64 0, .int .i64 0]) ?_ 0 _ rfl; (with_reducible repeat first | apply b1 | apply b2 | apply b3); refine blk_far ?_ NB133_135.out _; (with_reducible repeat first | apply b1 | apply b2 | apply b3); refine blk_far ?_ NB133_135.out _; (with_reducible repeat first | apply b1 | apply b2 | apply b3); exact BK133.out) Tryd.underlying23 rfl (by kernel_rfl)) rfl ?_
     exact ⟨by first | rfl | (simp [errW_none, errW_some] <;> rfl) | (simp [*, errW_none, errW_some] <;> rfl), by repeat (first | (with_reducible first | exact HB.out | apply b4 | apply b5 | apply b6 | refine below_set ?_ GE133.out | refine below_set ?_ GE135.out) | exact HB.out)⟩
    ·
     rw [if_neg c15] at H
     have c15b0 : decide (1000000000 < (wrap64 (Int.tdiv (wrap64 (-a0)) t134))) = false := decide_eq_false c15
     clear c15
     by_cases c24 : (wrap64 (Int.tdiv (wrap64 (-a1)) t134)) > 1000000
     ·
      rw [if_pos c24] at H
      have c24b0 : decide (1000000 < (wrap64 (Int.tdiv (wrap64 (-a1)) t134))) = true := decide_eq_true c24
      clear c24
      simp only [Option.some.injEq, Prod.mk.injEq] at H
      obtain ⟨rfl, rfl, rfl⟩ := H
      go_enter Tryd.func43, Tryd.ntmps43
      try go_wp2_with (first | ((with_reducible refine gate_dst (N := 4) rfl ?_); refine box_event ?hg (N := 4) ?hd (cs := #[.int .i64 0, .int .i64 0]) (t := 23) ?hr ?_; (case hd => rfl); (case hg => rfl); (case hr => first | (go_simp; done) | (go_simp; rfl)); intro gb133 hg w25 hbox hb; have n0_ := Aside0.mk (below_step (by repeat (first | (with_reducible first | exact HB.out | apply b4 | apply b5 | apply b6) | exact HB.out)) hb); have n1_ := Aside0.mk (hbox); have n2_ := Aside0.mk ((by rw [hg]; exact (below_size (by repeat (first | (with_reducible first | exact HB.out | apply b4 | apply b5 | apply b6) | exact HB.out))) : w.heap.size ≤ gb133)); have n3_ := Aside0.mk ((by rw [hg]; exact (below_size (by repeat (first | (with_reducible first | exact HB.out | apply b4 | apply b5 | apply b6) | exact HB.out))) : w.heap.size ≤ gb133)); clear HB; have HB := n0_; have BK133 := n1_; have GW133 := n2_; have GE133 := n3_; clear n0_ n1_ n2_ n3_; clear hb hbox hg) | ((with_reducible refine gate_callee (f := 50) rfl ?_); refine goesL_ (some 16) rfl rfl Tryd.func50 (by kernel_rfl) rfl #[.int .i64 (wrap64 (-a0)), .int .i64 (wrap64 (-a1))] rfl (by (try simp only [List.map_toArray, List.map_cons, List.map_nil]); first | done | rfl | (simp only [List.length_drop, List.length_take]; rfl)) ?_; (with_reducible refine (assessorref46_gcd.calls k (wrap64 (-a0)) (wrap64 (-a1)) t134 _ A4.out).mono ?_); rintro e w' ⟨rfl, ⟨nd, rfl⟩⟩; refine ⟨_, rfl, ?_⟩; (try (rw [drewN_self w25]; generalize hq_ : World.drewN w25 _ = w25; have n0_ : Aside0 (w25.heap[gb133]? = some (.cells #[.int .i64 0, .int .i64 0] 23 (0, 0))) := ⟨by rw [← hq_]; exact (by (with_reducible repeat first | apply b1 | apply b2 | apply b3); exact BK133.out)⟩; have n1_ : Aside0 (Below w.heap.size w w25) := ⟨by rw [← hq_]; exact (by repeat (first | (with_reducible first | exact HB.out | apply b4 | apply b5 | apply b6 | refine below_set ?_ GE133.out) | exact HB.out))⟩; clear BK133 HB hq_; have BK133 := n0_; have HB := n1_; clear n0_ n1_))))
      have n0_ := Aside0.mk (blk_drew BK133.out)
      have n1_ := Aside0.mk (below_drew1 HB.out)
      clear BK133
      clear HB
      have BK133 := n0_
      have HB := n1_
      clear n0_ n1_
      refine start_ (n := 9) (S := fun w' => True) (ds := []) #[false, false, false, false, false, false, false, false, false] (by kernel_rfl) rfl rfl trivial (fun hHeld => ?_); refine with_tabW assessorref46_reduce.tab4 assessorref46_reduce.bits4 (fun HT_ HW_ => ?_)
      generalize w25.drew = w26 at BK133 HB hHeld ⊢
      refine pure_ (i := 0) (N := some 17) (v := ?_) (a' := ?_) #[true, false, false, false, false, false, false, false, false] rfl rfl (any_of HT_.out (by kernel_rfl)) (fun _ _ _ h => h) (Or.inl ⟨by rfl, ?_⟩) ?_ ?_
      rotate_left
      ·
       intro w'
       go_simp
       with_reducible rfl
      rotate_left
      ·
       simp only [Act.put, List.setIfInBounds_toArray, List.set_cons_zero, List.set_cons_succ, i64_w, i32_w]
       rfl
      refine pure_ (i := 1) (N := some 18) (v := ?_) (a' := ?_) #[true, true, false, false, false, false, false, false, false] rfl rfl (any_of HT_.out (by kernel_rfl)) (fun _ _ _ h => h) (Or.inl ⟨by rfl, ?_⟩) ?_ ?_
      rotate_left
      ·
       intro w'
       go_simp
       with_reducible rfl
      rotate_left
      ·
       simp only [Act.put, List.setIfInBounds_toArray, List.set_cons_zero, List.set_cons_succ, i64_w, i32_w]
       rfl
      refine pure_ (i := 2) (N := some 19) (v := ?_) (a' := ?_) #[true, true, true, false, false, false, false, false, false] rfl rfl (any_of HT_.out (by kernel_rfl)) (fun _ _ _ h => h) (Or.inl ⟨by rfl, ?_⟩) ?_ ?_
      rotate_left
      ·
       intro w'
       go_simp
       with_reducible rfl
      rotate_left
      ·
       simp only [Act.put, List.setIfInBounds_toArray, List.set_cons_zero, List.set_cons_succ, i64_w, i32_w]
       rfl
      refine pure_ (i := 3) (N := some 20) (v := ?_) (a' := ?_) #[true, true, true, true, false, false, false, false, false] rfl rfl (any_of HT_.out (by kernel_rfl)) (fun _ _ _ h => h) (Or.inl ⟨by rfl, ?_⟩) ?_ ?_
      rotate_left
      ·
       intro w'
       go_simp
       with_reducible rfl
      rotate_left
      ·
       simp only [Act.put, List.setIfInBounds_toArray, List.set_cons_zero, List.set_cons_succ, i64_w, i32_w]
       rfl
      refine pure_ (i := 4) (N := some 21) (v := ?_) (a' := ?_) #[true, true, true, true, true, false, false, false, false] rfl rfl (any_of HT_.out (by kernel_rfl)) (fun _ _ _ h => h) (Or.inl ⟨by rfl, ?_⟩) ?_ ?_
      rotate_left
      ·
       intro w'
       go_simp
       with_reducible rfl
      rotate_left
      ·
       simp only [Act.put, List.setIfInBounds_toArray, List.set_cons_zero, List.set_cons_succ, i64_w, i32_w]
       rfl
      refine pure_ (i := 5) (N := some 22) (v := ?_) (a' := ?_) #[true, true, true, true, true, true, false, false, false] rfl rfl (any_of HT_.out (by kernel_rfl)) (fun _ _ _ h => h) (Or.inl ⟨by rfl, ?_⟩) ?_ ?_
      rotate_left
      ·
       intro w'
       go_simp
       with_reducible rfl
      rotate_left
      ·
       simp only [Act.put, List.setIfInBounds_toArray, List.set_cons_zero, List.set_cons_succ, i64_w, i32_w]
       rfl
      refine pure_ (i := 6) (N := some 23) (v := ?_) (a' := ?_) #[true, true, true, true, true, true, true, false, false] rfl rfl (any_of HT_.out (by kernel_rfl)) (fun _ _ _ h => h) (Or.inl ⟨by rfl, ?_⟩) ?_ ?_
      rotate_left
      ·
       intro w'
       go_simp
       with_reducible rfl
      rotate_left
      ·
       simp only [Act.put, List.setIfInBounds_toArray, List.set_cons_zero, List.set_cons_succ, i64_w, i32_w]
       rfl
      refine one_ (i := 7) (N := some 7) #[true, true, true, true, true, true, true, true, false] rfl rfl (one_of HT_.out (by kernel_rfl)) (by decide) (fun K hK => ?_)
      refine box_step ?hg (N := 7) ?hd (cs := #[.int .i64 0, .int .i64 0]) (t := 23) ?hr ?_; (case hd => rfl); (case hg => rfl); (case hr => first | (go_simp; done) | (go_simp; rfl))
      intro gb135 hg w27 hbox hb
      have n0_ := Aside0.mk (blk_below (g := gb133) (o := .cells #[.int .i64 0, .int .i64 0] 23 (0, 0)) (by (with_reducible repeat first | apply b1 | apply b2 | apply b3); exact BK133.out) hb)
      have n1_ := Aside0.mk (below_step (by repeat (first | (with_reducible first | exact HB.out | apply b4 | apply b5 | apply b6 | refine below_set ?_ GE133.out) | exact HB.out)) hb)
      have n2_ := Aside0.mk (hbox)
      have n3_ := Aside0.mk ((by rw [hg]; exact (below_size (by repeat (first | (with_reducible first | exact HB.out | apply b4 | apply b5 | apply b6 | refine below_set ?_ GE133.out) | exact HB.out))) : w.heap.size ≤ gb135))
      have n4_ := Aside0.mk ((by rw [hg]; exact (below_size (by repeat (first | (with_reducible first | exact HB.out | apply b4 | apply b5 | apply b6 | refine below_set ?_ GE133.out) | exact HB.out))) : w.heap.size ≤ gb135))
      have n5_ := Aside0.mk ((by rw [hg]; exact Nat.ne_of_lt (blk_lt (g := gb133) (o := .cells #[.int .i64 0, .int .i64 0] 23 (0, 0)) (by (with_reducible repeat first | apply b1 | apply b2 | apply b3); exact BK133.out)) : gb133 ≠ gb135))
      have n6_ := Aside0.mk ((by rw [hg]; exact Nat.ne_of_gt (blk_lt (g := gb133) (o := .cells #[.int .i64 0, .int .i64 0] 23 (0, 0)) (by (with_reducible repeat first | apply b1 | apply b2 | apply b3); exact BK133.out)) : gb135 ≠ gb133))
      clear BK133
      clear HB
      have BK133 := n0_
      have HB := n1_
      have BK135 := n2_
      have GW135 := n3_
      have GE135 := n4_
      have NB133_135 := n5_
      have NB135_133 := n6_
      clear n0_ n1_ n2_ n3_ n4_ n5_ n6_
      clear hb hbox hg
      refine hK.out _ _ trivial (fun hHeld => ?_)
      clear hK K
      refine norm_ (a' := ?_) ?_ ?_
      rotate_left
      ·
       show Act.put _ (some 7) _ = _
       simp only [Act.put, List.setIfInBounds_toArray, List.set_cons_zero, List.set_cons_succ, i64_w, i32_w]
       rfl
      refine one_ (i := 8) (N := none) #[true, true, true, true, true, true, true, true, true] rfl rfl (one_of HT_.out (by kernel_rfl)) (by decide) (fun K hK => ?_)
      have hs28 : w27.cell? ⟨gb135, 0, none⟩ = some (.int .i64 0) := (blk_cell BK135.out 0).trans rfl
      have hfs28 := blk_frozen BK135.out 0
      have hns28_0 := NB133_135.out
      have hms28_0 := NB135_133.out
      have hs29 : w27.cell? ⟨gb135, 1, none⟩ = some (.int .i64 0) := (blk_cell BK135.out 1).trans rfl
      have hfs29 := blk_frozen BK135.out 1
      have hns29_0 := NB133_135.out
      have hms29_0 := NB135_133.out
      refine skip_ (w1 := ?_) (by rfl) rfl ?_ ?_
      rotate_left
      ·
       go_simp
       rfl
      refine hK.out _ _ trivial (fun hHeld => ?_)
      clear hK K
      refine done_ (done_of HT_.out (by kernel_rfl)) ?_
      have hnb30 := NB135_133.out
      have hnc30 := NB133_135.out
      have hcz31_0 : w27.cell? ⟨gb135, 0, none⟩ = some (.int .i64 0) := (blk_cell BK135.out 0).trans rfl
      have hcz31_1 : w27.cell? ⟨gb135, 1, none⟩ = some (.int .i64 0) := (blk_cell BK135.out 1).trans rfl
      have hfz31_0 := blk_frozen BK135.out 0
      have hfz31_1 := blk_frozen BK135.out 1
      have hcz32_0 : w27.cell? ⟨gb133, 0, none⟩ = some (.int .i64 0) := (blk_cell BK133.out 0).trans rfl
      have hcz32_1 : w27.cell? ⟨gb133, 1, none⟩ = some (.int .i64 0) := (blk_cell BK133.out 1).trans rfl
      have hfz32_0 := blk_frozen BK133.out 0
      have hfz32_1 := blk_frozen BK133.out 1
      try go_wp2
      refine bodyPost_ret (results_ct rfl _ _ gb133 23 #[.int .i64 0, .int .i64 0] (0, 0) _ rfl (by (with_reducible repeat first | apply b1 | apply b2 | apply b3); refine blk_put (cs := #[.int .i64 0, .int .i64 0]) ?_ 1 _ rfl; (with_reducible repeat first | apply b1 | apply b2 | apply b3); refine blk_put (cs := #[.int .i64 0, .int .i64 0]) ?_ 0 _ rfl; (with_reducible repeat first | apply b1 | apply b2 | apply b3); refine blk_far ?_ NB133_135.out _; (with_reducible repeat first | apply b1 | apply b2 | apply b3); refine blk_far ?_ NB133_135.out _; (with_reducible repeat first | apply b1 | apply b2 | apply b3); exact BK133.out) Tryd.underlying23 rfl (by kernel_rfl)) rfl ?_
      exact ⟨by first | rfl | (simp [errW_none, errW_some] <;> rfl) | (simp [*, errW_none, errW_some] <;> rfl), by repeat (first | (with_reducible first | exact HB.out | apply b4 | apply b5 | apply b6 | refine below_set ?_ GE133.out | refine below_set ?_ GE135.out) | exact HB.out)⟩
     ·
      rw [if_neg c24] at H
      have c24b0 : decide (1000000 < (wrap64 (Int.tdiv (wrap64 (-a1)) t134))) = false := decide_eq_false c24
      clear c24
      simp only [Option.some.injEq, Prod.mk.injEq] at H
      obtain ⟨rfl, rfl, rfl⟩ := H
      go_enter Tryd.func43, Tryd.ntmps43
      try go_wp2_with (first | ((with_reducible refine gate_dst (N := 4) rfl ?_); refine box_event ?hg (N := 4) ?hd (cs := #[.int .i64 0, .int .i64 0]) (t := 23) ?hr ?_; (case hd => rfl); (case hg => rfl); (case hr => first | (go_simp; done) | (go_simp; rfl)); intro gb133 hg w33 hbox hb; have n0_ := Aside0.mk (below_step (by repeat (first | (with_reducible first | exact HB.out | apply b4 | apply b5 | apply b6) | exact HB.out)) hb); have n1_ := Aside0.mk (hbox); have n2_ := Aside0.mk ((by rw [hg]; exact (below_size (by repeat (first | (with_reducible first | exact HB.out | apply b4 | apply b5 | apply b6) | exact HB.out))) : w.heap.size ≤ gb133)); have n3_ := Aside0.mk ((by rw [hg]; exact (below_size (by repeat (first | (with_reducible first | exact HB.out | apply b4 | apply b5 | apply b6) | exact HB.out))) : w.heap.size ≤ gb133)); clear HB; have HB := n0_; have BK133 := n1_; have GW133 := n2_; have GE133 := n3_; clear n0_ n1_ n2_ n3_; clear hb hbox hg) | ((with_reducible refine gate_callee (f := 50) rfl ?_); refine goesL_ (some 16) rfl rfl Tryd.func50 (by kernel_rfl) rfl #[.int .i64 (wrap64 (-a0)), .int .i64 (wrap64 (-a1))] rfl (by (try simp only [List.map_toArray, List.map_cons, List.map_nil]); first | done | rfl | (simp only [List.length_drop, List.length_take]; rfl)) ?_; (with_reducible refine (assessorref46_gcd.calls k (wrap64 (-a0)) (wrap64 (-a1)) t134 _ A4.out).mono ?_); rintro e w' ⟨rfl, ⟨nd, rfl⟩⟩; refine ⟨_, rfl, ?_⟩; (try (rw [drewN_self w33]; generalize hq_ : World.drewN w33 _ = w33; have n0_ : Aside0 (w33.heap[gb133]? = some (.cells #[.int .i64 0, .int .i64 0] 23 (0, 0))) := ⟨by rw [← hq_]; exact (by (with_reducible repeat first | apply b1 | apply b2 | apply b3); exact BK133.out)⟩; have n1_ : Aside0 (Below w.heap.size w w33) := ⟨by rw [← hq_]; exact (by repeat (first | (with_reducible first | exact HB.out | apply b4 | apply b5 | apply b6 | refine below_set ?_ GE133.out) | exact HB.out))⟩; clear BK133 HB hq_; have BK133 := n0_; have HB := n1_; clear n0_ n1_))))
      have n0_ := Aside0.mk (blk_drew BK133.out)
      have n1_ := Aside0.mk (below_drew1 HB.out)
      clear BK133
      clear HB
      have BK133 := n0_
      have HB := n1_
      clear n0_ n1_
      refine start_ (n := 9) (S := fun w' => True) (ds := []) #[false, false, false, false, false, false, false, false, false] (by kernel_rfl) rfl rfl trivial (fun hHeld => ?_); refine with_tabW assessorref46_reduce.tab4 assessorref46_reduce.bits4 (fun HT_ HW_ => ?_)
      generalize w33.drew = w34 at BK133 HB hHeld ⊢
      refine pure_ (i := 0) (N := some 17) (v := ?_) (a' := ?_) #[true, false, false, false, false, false, false, false, false] rfl rfl (any_of HT_.out (by kernel_rfl)) (fun _ _ _ h => h) (Or.inl ⟨by rfl, ?_⟩) ?_ ?_
      rotate_left
      ·
       intro w'
       go_simp
       with_reducible rfl
      rotate_left
      ·
       simp only [Act.put, List.setIfInBounds_toArray, List.set_cons_zero, List.set_cons_succ, i64_w, i32_w]
       rfl
      refine pure_ (i := 1) (N := some 18) (v := ?_) (a' := ?_) #[true, true, false, false, false, false, false, false, false] rfl rfl (any_of HT_.out (by kernel_rfl)) (fun _ _ _ h => h) (Or.inl ⟨by rfl, ?_⟩) ?_ ?_
      rotate_left
      ·
       intro w'
       go_simp
       with_reducible rfl
      rotate_left
      ·
       simp only [Act.put, List.setIfInBounds_toArray, List.set_cons_zero, List.set_cons_succ, i64_w, i32_w]
       rfl
      refine pure_ (i := 2) (N := some 19) (v := ?_) (a' := ?_) #[true, true, true, false, false, false, false, false, false] rfl rfl (any_of HT_.out (by kernel_rfl)) (fun _ _ _ h => h) (Or.inl ⟨by rfl, ?_⟩) ?_ ?_
      rotate_left
      ·
       intro w'
       go_simp
       with_reducible rfl
      rotate_left
      ·
       simp only [Act.put, List.setIfInBounds_toArray, List.set_cons_zero, List.set_cons_succ, i64_w, i32_w]
       rfl
      refine pure_ (i := 3) (N := some 20) (v := ?_) (a' := ?_) #[true, true, true, true, false, false, false, false, false] rfl rfl (any_of HT_.out (by kernel_rfl)) (fun _ _ _ h => h) (Or.inl ⟨by rfl, ?_⟩) ?_ ?_
      rotate_left
      ·
       intro w'
       go_simp
       with_reducible rfl
      rotate_left
      ·
       simp only [Act.put, List.setIfInBounds_toArray, List.set_cons_zero, List.set_cons_succ, i64_w, i32_w]
       rfl
      refine pure_ (i := 4) (N := some 21) (v := ?_) (a' := ?_) #[true, true, true, true, true, false, false, false, false] rfl rfl (any_of HT_.out (by kernel_rfl)) (fun _ _ _ h => h) (Or.inl ⟨by rfl, ?_⟩) ?_ ?_
      rotate_left
      ·
       intro w'
       go_simp
       with_reducible rfl
      rotate_left
      ·
       simp only [Act.put, List.setIfInBounds_toArray, List.set_cons_zero, List.set_cons_succ, i64_w, i32_w]
       rfl
      refine pure_ (i := 5) (N := some 22) (v := ?_) (a' := ?_) #[true, true, true, true, true, true, false, false, false] rfl rfl (any_of HT_.out (by kernel_rfl)) (fun _ _ _ h => h) (Or.inl ⟨by rfl, ?_⟩) ?_ ?_
      rotate_left
      ·
       intro w'
       go_simp
       with_reducible rfl
      rotate_left
      ·
       simp only [Act.put, List.setIfInBounds_toArray, List.set_cons_zero, List.set_cons_succ, i64_w, i32_w]
       rfl
      refine pure_ (i := 6) (N := some 23) (v := ?_) (a' := ?_) #[true, true, true, true, true, true, true, false, false] rfl rfl (any_of HT_.out (by kernel_rfl)) (fun _ _ _ h => h) (Or.inl ⟨by rfl, ?_⟩) ?_ ?_
      rotate_left
      ·
       intro w'
       go_simp
       with_reducible rfl
      rotate_left
      ·
       simp only [Act.put, List.setIfInBounds_toArray, List.set_cons_zero, List.set_cons_succ, i64_w, i32_w]
       rfl
      refine one_ (i := 7) (N := some 7) #[true, true, true, true, true, true, true, true, false] rfl rfl (one_of HT_.out (by kernel_rfl)) (by decide) (fun K hK => ?_)
      refine box_step ?hg (N := 7) ?hd (cs := #[.int .i64 0, .int .i64 0]) (t := 23) ?hr ?_; (case hd => rfl); (case hg => rfl); (case hr => first | (go_simp; done) | (go_simp; rfl))
      intro gb135 hg w35 hbox hb
      have n0_ := Aside0.mk (blk_below (g := gb133) (o := .cells #[.int .i64 0, .int .i64 0] 23 (0, 0)) (by (with_reducible repeat first | apply b1 | apply b2 | apply b3); exact BK133.out) hb)
      have n1_ := Aside0.mk (below_step (by repeat (first | (with_reducible first | exact HB.out | apply b4 | apply b5 | apply b6 | refine below_set ?_ GE133.out) | exact HB.out)) hb)
      have n2_ := Aside0.mk (hbox)
      have n3_ := Aside0.mk ((by rw [hg]; exact (below_size (by repeat (first | (with_reducible first | exact HB.out | apply b4 | apply b5 | apply b6 | refine below_set ?_ GE133.out) | exact HB.out))) : w.heap.size ≤ gb135))
      have n4_ := Aside0.mk ((by rw [hg]; exact (below_size (by repeat (first | (with_reducible first | exact HB.out | apply b4 | apply b5 | apply b6 | refine below_set ?_ GE133.out) | exact HB.out))) : w.heap.size ≤ gb135))
      have n5_ := Aside0.mk ((by rw [hg]; exact Nat.ne_of_lt (blk_lt (g := gb133) (o := .cells #[.int .i64 0, .int .i64 0] 23 (0, 0)) (by (with_reducible repeat first | apply b1 | apply b2 | apply b3); exact BK133.out)) : gb133 ≠ gb135))
      have n6_ := Aside0.mk ((by rw [hg]; exact Nat.ne_of_gt (blk_lt (g := gb133) (o := .cells #[.int .i64 0, .int .i64 0] 23 (0, 0)) (by (with_reducible repeat first | apply b1 | apply b2 | apply b3); exact BK133.out)) : gb135 ≠ gb133))
      clear BK133
      clear HB
      have BK133 := n0_
      have HB := n1_
      have BK135 := n2_
      have GW135 := n3_
      have GE135 := n4_
      have NB133_135 := n5_
      have NB135_133 := n6_
      clear n0_ n1_ n2_ n3_ n4_ n5_ n6_
      clear hb hbox hg
      refine hK.out _ _ trivial (fun hHeld => ?_)
      clear hK K
      refine norm_ (a' := ?_) ?_ ?_
      rotate_left
      ·
       show Act.put _ (some 7) _ = _
       simp only [Act.put, List.setIfInBounds_toArray, List.set_cons_zero, List.set_cons_succ, i64_w, i32_w]
       rfl
      refine one_ (i := 8) (N := none) #[true, true, true, true, true, true, true, true, true] rfl rfl (one_of HT_.out (by kernel_rfl)) (by decide) (fun K hK => ?_)
      have hs36 : w35.cell? ⟨gb135, 0, none⟩ = some (.int .i64 0) := (blk_cell BK135.out 0).trans rfl
      have hfs36 := blk_frozen BK135.out 0
      have hns36_0 := NB133_135.out
      have hms36_0 := NB135_133.out
      have hs37 : w35.cell? ⟨gb135, 1, none⟩ = some (.int .i64 0) := (blk_cell BK135.out 1).trans rfl
      have hfs37 := blk_frozen BK135.out 1
      have hns37_0 := NB133_135.out
      have hms37_0 := NB135_133.out
      refine skip_ (w1 := ?_) (by rfl) rfl ?_ ?_
      rotate_left
      ·
       go_simp
       rfl
      refine hK.out _ _ trivial (fun hHeld => ?_)
      clear hK K
      refine done_ (done_of HT_.out (by kernel_rfl)) ?_
      have hnb38 := NB135_133.out
      have hnc38 := NB133_135.out
      have hcz39_0 : w35.cell? ⟨gb135, 0, none⟩ = some (.int .i64 0) := (blk_cell BK135.out 0).trans rfl
      have hcz39_1 : w35.cell? ⟨gb135, 1, none⟩ = some (.int .i64 0) := (blk_cell BK135.out 1).trans rfl
      have hfz39_0 := blk_frozen BK135.out 0
      have hfz39_1 := blk_frozen BK135.out 1
      have hcz40_0 : w35.cell? ⟨gb133, 0, none⟩ = some (.int .i64 0) := (blk_cell BK133.out 0).trans rfl
      have hcz40_1 : w35.cell? ⟨gb133, 1, none⟩ = some (.int .i64 0) := (blk_cell BK133.out 1).trans rfl
      have hfz40_0 := blk_frozen BK133.out 0
      have hfz40_1 := blk_frozen BK133.out 1
      try go_wp2
      refine bodyPost_ret (results_ct rfl _ _ gb133 23 #[.int .i64 (wrap64 (Int.tdiv (wrap64 (-a0)) t134)), .int .i64 (wrap64 (Int.tdiv (wrap64 (-a1)) t134))] (0, 0) _ rfl (by (with_reducible repeat first | apply b1 | apply b2 | apply b3); refine blk_put (cs := #[.int .i64 (wrap64 (Int.tdiv (wrap64 (-a0)) t134)), .int .i64 0]) ?_ 1 _ rfl; (with_reducible repeat first | apply b1 | apply b2 | apply b3); refine blk_put (cs := #[.int .i64 0, .int .i64 0]) ?_ 0 _ rfl; (with_reducible repeat first | apply b1 | apply b2 | apply b3); refine blk_far ?_ NB133_135.out _; (with_reducible repeat first | apply b1 | apply b2 | apply b3); refine blk_far ?_ NB133_135.out _; (with_reducible repeat first | apply b1 | apply b2 | apply b3); exact BK133.out) Tryd.underlying23 rfl (by kernel_rfl)) rfl ?_
      exact ⟨by first | rfl | (simp [errW_none, errW_some] <;> rfl) | (simp [*, errW_none, errW_some] <;> rfl), by repeat (first | (with_reducible first | exact HB.out | apply b4 | apply b5 | apply b6 | refine below_set ?_ GE133.out | refine below_set ?_ GE135.out) | exact HB.out)⟩
 ·
  rw [if_neg c3] at H
  have c3b0 : decide (a1 < 0) = false := decide_eq_false c3
  clear c3
  replace H := Option.bind_eq_some_iff.mp H
  obtain ⟨t136, A410, H⟩ := H
  replace H : (if t136 = 0 then (none) else (if (wrap64 (Int.tdiv a0 t136)) < (-1000000000) then (some (0, 0, 2)) else (if (wrap64 (Int.tdiv a0 t136)) > 1000000000 then (some (0, 0, 2)) else (if (wrap64 (Int.tdiv a1 t136)) > 1000000 then (some (0, 0, 2)) else (some (wrap64 (Int.tdiv a0 t136), wrap64 (Int.tdiv a1 t136), 0)))))) = some (r1, r2, r3) := H
  have A41 := Aside0.mk A410
  clear A410
  by_cases c42 : t136 = 0
  ·
   rw [if_pos c42] at H
   exact absurd H (by simp)
  ·
   rw [if_neg c42] at H
   have c42b0 : (t136 == 0) = false := beq_eq_false_iff_ne.mpr c42
   have c42b1 : (t136 != 0) = true := bne_iff_ne.mpr c42
   by_cases c43 : (wrap64 (Int.tdiv a0 t136)) < (-1000000000)
   ·
    rw [if_pos c43] at H
    have c43b0 : decide ((wrap64 (Int.tdiv a0 t136)) < (-1000000000)) = true := decide_eq_true c43
    clear c43
    simp only [Option.some.injEq, Prod.mk.injEq] at H
    obtain ⟨rfl, rfl, rfl⟩ := H
    go_enter Tryd.func43, Tryd.ntmps43
    try go_wp2_with (first | ((with_reducible refine gate_dst (N := 4) rfl ?_); refine box_event ?hg (N := 4) ?hd (cs := #[.int .i64 0, .int .i64 0]) (t := 23) ?hr ?_; (case hd => rfl); (case hg => rfl); (case hr => first | (go_simp; done) | (go_simp; rfl)); intro gb133 hg w44 hbox hb; have n0_ := Aside0.mk (below_step (by repeat (first | (with_reducible first | exact HB.out | apply b4 | apply b5 | apply b6) | exact HB.out)) hb); have n1_ := Aside0.mk (hbox); have n2_ := Aside0.mk ((by rw [hg]; exact (below_size (by repeat (first | (with_reducible first | exact HB.out | apply b4 | apply b5 | apply b6) | exact HB.out))) : w.heap.size ≤ gb133)); have n3_ := Aside0.mk ((by rw [hg]; exact (below_size (by repeat (first | (with_reducible first | exact HB.out | apply b4 | apply b5 | apply b6) | exact HB.out))) : w.heap.size ≤ gb133)); clear HB; have HB := n0_; have BK133 := n1_; have GW133 := n2_; have GE133 := n3_; clear n0_ n1_ n2_ n3_; clear hb hbox hg) | ((with_reducible refine gate_callee (f := 50) rfl ?_); refine goesL_ (some 16) rfl rfl Tryd.func50 (by kernel_rfl) rfl #[.int .i64 a0, .int .i64 a1] rfl (by (try simp only [List.map_toArray, List.map_cons, List.map_nil]); first | done | rfl | (simp only [List.length_drop, List.length_take]; rfl)) ?_; (with_reducible refine (assessorref46_gcd.calls k a0 a1 t136 _ A41.out).mono ?_); rintro e w' ⟨rfl, ⟨nd, rfl⟩⟩; refine ⟨_, rfl, ?_⟩; (try (rw [drewN_self w44]; generalize hq_ : World.drewN w44 _ = w44; have n0_ : Aside0 (w44.heap[gb133]? = some (.cells #[.int .i64 0, .int .i64 0] 23 (0, 0))) := ⟨by rw [← hq_]; exact (by (with_reducible repeat first | apply b1 | apply b2 | apply b3); exact BK133.out)⟩; have n1_ : Aside0 (Below w.heap.size w w44) := ⟨by rw [← hq_]; exact (by repeat (first | (with_reducible first | exact HB.out | apply b4 | apply b5 | apply b6 | refine below_set ?_ GE133.out) | exact HB.out))⟩; clear BK133 HB hq_; have BK133 := n0_; have HB := n1_; clear n0_ n1_))))
    have n0_ := Aside0.mk (blk_drew BK133.out)
    have n1_ := Aside0.mk (below_drew1 HB.out)
    clear BK133
    clear HB
    have BK133 := n0_
    have HB := n1_
    clear n0_ n1_
    refine start_ (n := 9) (S := fun w' => True) (ds := []) #[false, false, false, false, false, false, false, false, false] (by kernel_rfl) rfl rfl trivial (fun hHeld => ?_); refine with_tabW assessorref46_reduce.tab4 assessorref46_reduce.bits4 (fun HT_ HW_ => ?_)
    generalize w44.drew = w45 at BK133 HB hHeld ⊢
    refine pure_ (i := 0) (N := some 17) (v := ?_) (a' := ?_) #[true, false, false, false, false, false, false, false, false] rfl rfl (any_of HT_.out (by kernel_rfl)) (fun _ _ _ h => h) (Or.inl ⟨by rfl, ?_⟩) ?_ ?_
    rotate_left
    ·
     intro w'
     go_simp
     with_reducible rfl
    rotate_left
    ·
     simp only [Act.put, List.setIfInBounds_toArray, List.set_cons_zero, List.set_cons_succ, i64_w, i32_w]
     rfl
    refine pure_ (i := 1) (N := some 18) (v := ?_) (a' := ?_) #[true, true, false, false, false, false, false, false, false] rfl rfl (any_of HT_.out (by kernel_rfl)) (fun _ _ _ h => h) (Or.inl ⟨by rfl, ?_⟩) ?_ ?_
    rotate_left
    ·
     intro w'
     go_simp
     with_reducible rfl
    rotate_left
    ·
     simp only [Act.put, List.setIfInBounds_toArray, List.set_cons_zero, List.set_cons_succ, i64_w, i32_w]
     rfl
    refine pure_ (i := 2) (N := some 19) (v := ?_) (a' := ?_) #[true, true, true, false, false, false, false, false, false] rfl rfl (any_of HT_.out (by kernel_rfl)) (fun _ _ _ h => h) (Or.inl ⟨by rfl, ?_⟩) ?_ ?_
    rotate_left
    ·
     intro w'
     go_simp
     with_reducible rfl
    rotate_left
    ·
     simp only [Act.put, List.setIfInBounds_toArray, List.set_cons_zero, List.set_cons_succ, i64_w, i32_w]
     rfl
    refine pure_ (i := 3) (N := some 20) (v := ?_) (a' := ?_) #[true, true, true, true, false, false, false, false, false] rfl rfl (any_of HT_.out (by kernel_rfl)) (fun _ _ _ h => h) (Or.inl ⟨by rfl, ?_⟩) ?_ ?_
    rotate_left
    ·
     intro w'
     go_simp
     with_reducible rfl
    rotate_left
    ·
     simp only [Act.put, List.setIfInBounds_toArray, List.set_cons_zero, List.set_cons_succ, i64_w, i32_w]
     rfl
    refine pure_ (i := 4) (N := some 21) (v := ?_) (a' := ?_) #[true, true, true, true, true, false, false, false, false] rfl rfl (any_of HT_.out (by kernel_rfl)) (fun _ _ _ h => h) (Or.inl ⟨by rfl, ?_⟩) ?_ ?_
    rotate_left
    ·
     intro w'
     go_simp
     with_reducible rfl
    rotate_left
    ·
     simp only [Act.put, List.setIfInBounds_toArray, List.set_cons_zero, List.set_cons_succ, i64_w, i32_w]
     rfl
    refine pure_ (i := 5) (N := some 22) (v := ?_) (a' := ?_) #[true, true, true, true, true, true, false, false, false] rfl rfl (any_of HT_.out (by kernel_rfl)) (fun _ _ _ h => h) (Or.inl ⟨by rfl, ?_⟩) ?_ ?_
    rotate_left
    ·
     intro w'
     go_simp
     with_reducible rfl
    rotate_left
    ·
     simp only [Act.put, List.setIfInBounds_toArray, List.set_cons_zero, List.set_cons_succ, i64_w, i32_w]
     rfl
    refine pure_ (i := 6) (N := some 23) (v := ?_) (a' := ?_) #[true, true, true, true, true, true, true, false, false] rfl rfl (any_of HT_.out (by kernel_rfl)) (fun _ _ _ h => h) (Or.inl ⟨by rfl, ?_⟩) ?_ ?_
    rotate_left
    ·
     intro w'
     go_simp
     with_reducible rfl
    rotate_left
    ·
     simp only [Act.put, List.setIfInBounds_toArray, List.set_cons_zero, List.set_cons_succ, i64_w, i32_w]
     rfl
    refine one_ (i := 7) (N := some 7) #[true, true, true, true, true, true, true, true, false] rfl rfl (one_of HT_.out (by kernel_rfl)) (by decide) (fun K hK => ?_)
    refine box_step ?hg (N := 7) ?hd (cs := #[.int .i64 0, .int .i64 0]) (t := 23) ?hr ?_; (case hd => rfl); (case hg => rfl); (case hr => first | (go_simp; done) | (go_simp; rfl))
    intro gb137 hg w46 hbox hb
    have n0_ := Aside0.mk (blk_below (g := gb133) (o := .cells #[.int .i64 0, .int .i64 0] 23 (0, 0)) (by (with_reducible repeat first | apply b1 | apply b2 | apply b3); exact BK133.out) hb)
    have n1_ := Aside0.mk (below_step (by repeat (first | (with_reducible first | exact HB.out | apply b4 | apply b5 | apply b6 | refine below_set ?_ GE133.out) | exact HB.out)) hb)
    have n2_ := Aside0.mk (hbox)
    have n3_ := Aside0.mk ((by rw [hg]; exact (below_size (by repeat (first | (with_reducible first | exact HB.out | apply b4 | apply b5 | apply b6 | refine below_set ?_ GE133.out) | exact HB.out))) : w.heap.size ≤ gb137))
    have n4_ := Aside0.mk ((by rw [hg]; exact (below_size (by repeat (first | (with_reducible first | exact HB.out | apply b4 | apply b5 | apply b6 | refine below_set ?_ GE133.out) | exact HB.out))) : w.heap.size ≤ gb137))
    have n5_ := Aside0.mk ((by rw [hg]; exact Nat.ne_of_lt (blk_lt (g := gb133) (o := .cells #[.int .i64 0, .int .i64 0] 23 (0, 0)) (by (with_reducible repeat first | apply b1 | apply b2 | apply b3); exact BK133.out)) : gb133 ≠ gb137))
    have n6_ := Aside0.mk ((by rw [hg]; exact Nat.ne_of_gt (blk_lt (g := gb133) (o := .cells #[.int .i64 0, .int .i64 0] 23 (0, 0)) (by (with_reducible repeat first | apply b1 | apply b2 | apply b3); exact BK133.out)) : gb137 ≠ gb133))
    clear BK133
    clear HB
    have BK133 := n0_
    have HB := n1_
    have BK137 := n2_
    have GW137 := n3_
    have GE137 := n4_
    have NB133_137 := n5_
    have NB137_133 := n6_
    clear n0_ n1_ n2_ n3_ n4_ n5_ n6_
    clear hb hbox hg
    refine hK.out _ _ trivial (fun hHeld => ?_)
    clear hK K
    refine norm_ (a' := ?_) ?_ ?_
    rotate_left
    ·
     show Act.put _ (some 7) _ = _
     simp only [Act.put, List.setIfInBounds_toArray, List.set_cons_zero, List.set_cons_succ, i64_w, i32_w]
     rfl
    refine one_ (i := 8) (N := none) #[true, true, true, true, true, true, true, true, true] rfl rfl (one_of HT_.out (by kernel_rfl)) (by decide) (fun K hK => ?_)
    have hs47 : w46.cell? ⟨gb137, 0, none⟩ = some (.int .i64 0) := (blk_cell BK137.out 0).trans rfl
    have hfs47 := blk_frozen BK137.out 0
    have hns47_0 := NB133_137.out
    have hms47_0 := NB137_133.out
    have hs48 : w46.cell? ⟨gb137, 1, none⟩ = some (.int .i64 0) := (blk_cell BK137.out 1).trans rfl
    have hfs48 := blk_frozen BK137.out 1
    have hns48_0 := NB133_137.out
    have hms48_0 := NB137_133.out
    refine skip_ (w1 := ?_) (by rfl) rfl ?_ ?_
    rotate_left
    ·
     go_simp
     rfl
    refine hK.out _ _ trivial (fun hHeld => ?_)
    clear hK K
    refine done_ (done_of HT_.out (by kernel_rfl)) ?_
    have hnb49 := NB137_133.out
    have hnc49 := NB133_137.out
    have hcz50_0 : w46.cell? ⟨gb137, 0, none⟩ = some (.int .i64 0) := (blk_cell BK137.out 0).trans rfl
    have hcz50_1 : w46.cell? ⟨gb137, 1, none⟩ = some (.int .i64 0) := (blk_cell BK137.out 1).trans rfl
    have hfz50_0 := blk_frozen BK137.out 0
    have hfz50_1 := blk_frozen BK137.out 1
    have hcz51_0 : w46.cell? ⟨gb133, 0, none⟩ = some (.int .i64 0) := (blk_cell BK133.out 0).trans rfl
    have hcz51_1 : w46.cell? ⟨gb133, 1, none⟩ = some (.int .i64 0) := (blk_cell BK133.out 1).trans rfl
    have hfz51_0 := blk_frozen BK133.out 0
    have hfz51_1 := blk_frozen BK133.out 1
    try go_wp2
    refine bodyPost_ret (results_ct rfl _ _ gb133 23 #[.int .i64 0, .int .i64 0] (0, 0) _ rfl (by (with_reducible repeat first | apply b1 | apply b2 | apply b3); refine blk_put (cs := #[.int .i64 0, .int .i64 0]) ?_ 1 _ rfl; (with_reducible repeat first | apply b1 | apply b2 | apply b3); refine blk_put (cs := #[.int .i64 0, .int .i64 0]) ?_ 0 _ rfl; (with_reducible repeat first | apply b1 | apply b2 | apply b3); refine blk_far ?_ NB133_137.out _; (with_reducible repeat first | apply b1 | apply b2 | apply b3); refine blk_far ?_ NB133_137.out _; (with_reducible repeat first | apply b1 | apply b2 | apply b3); exact BK133.out) Tryd.underlying23 rfl (by kernel_rfl)) rfl ?_
    exact ⟨by first | rfl | (simp [errW_none, errW_some] <;> rfl) | (simp [*, errW_none, errW_some] <;> rfl), by repeat (first | (with_reducible first | exact HB.out | apply b4 | apply b5 | apply b6 | refine below_set ?_ GE133.out | refine below_set ?_ GE137.out) | exact HB.out)⟩
   ·
    rw [if_neg c43] at H
    have c43b0 : decide ((wrap64 (Int.tdiv a0 t136)) < (-1000000000)) = false := decide_eq_false c43
    clear c43
    by_cases c52 : (wrap64 (Int.tdiv a0 t136)) > 1000000000
    ·
     rw [if_pos c52] at H
     have c52b0 : decide (1000000000 < (wrap64 (Int.tdiv a0 t136))) = true := decide_eq_true c52
     clear c52
     simp only [Option.some.injEq, Prod.mk.injEq] at H
     obtain ⟨rfl, rfl, rfl⟩ := H
     go_enter Tryd.func43, Tryd.ntmps43
     try go_wp2_with (first | ((with_reducible refine gate_dst (N := 4) rfl ?_); refine box_event ?hg (N := 4) ?hd (cs := #[.int .i64 0, .int .i64 0]) (t := 23) ?hr ?_; (case hd => rfl); (case hg => rfl); (case hr => first | (go_simp; done) | (go_simp; rfl)); intro gb133 hg w53 hbox hb; have n0_ := Aside0.mk (below_step (by repeat (first | (with_reducible first | exact HB.out | apply b4 | apply b5 | apply b6) | exact HB.out)) hb); have n1_ := Aside0.mk (hbox); have n2_ := Aside0.mk ((by rw [hg]; exact (below_size (by repeat (first | (with_reducible first | exact HB.out | apply b4 | apply b5 | apply b6) | exact HB.out))) : w.heap.size ≤ gb133)); have n3_ := Aside0.mk ((by rw [hg]; exact (below_size (by repeat (first | (with_reducible first | exact HB.out | apply b4 | apply b5 | apply b6) | exact HB.out))) : w.heap.size ≤ gb133)); clear HB; have HB := n0_; have BK133 := n1_; have GW133 := n2_; have GE133 := n3_; clear n0_ n1_ n2_ n3_; clear hb hbox hg) | ((with_reducible refine gate_callee (f := 50) rfl ?_); refine goesL_ (some 16) rfl rfl Tryd.func50 (by kernel_rfl) rfl #[.int .i64 a0, .int .i64 a1] rfl (by (try simp only [List.map_toArray, List.map_cons, List.map_nil]); first | done | rfl | (simp only [List.length_drop, List.length_take]; rfl)) ?_; (with_reducible refine (assessorref46_gcd.calls k a0 a1 t136 _ A41.out).mono ?_); rintro e w' ⟨rfl, ⟨nd, rfl⟩⟩; refine ⟨_, rfl, ?_⟩; (try (rw [drewN_self w53]; generalize hq_ : World.drewN w53 _ = w53; have n0_ : Aside0 (w53.heap[gb133]? = some (.cells #[.int .i64 0, .int .i64 0] 23 (0, 0))) := ⟨by rw [← hq_]; exact (by (with_reducible repeat first | apply b1 | apply b2 | apply b3); exact BK133.out)⟩; have n1_ : Aside0 (Below w.heap.size w w53) := ⟨by rw [← hq_]; exact (by repeat (first | (with_reducible first | exact HB.out | apply b4 | apply b5 | apply b6 | refine below_set ?_ GE133.out) | exact HB.out))⟩; clear BK133 HB hq_; have BK133 := n0_; have HB := n1_; clear n0_ n1_))))
     have n0_ := Aside0.mk (blk_drew BK133.out)
     have n1_ := Aside0.mk (below_drew1 HB.out)
     clear BK133
     clear HB
     have BK133 := n0_
     have HB := n1_
     clear n0_ n1_
     refine start_ (n := 9) (S := fun w' => True) (ds := []) #[false, false, false, false, false, false, false, false, false] (by kernel_rfl) rfl rfl trivial (fun hHeld => ?_); refine with_tabW assessorref46_reduce.tab4 assessorref46_reduce.bits4 (fun HT_ HW_ => ?_)
     generalize w53.drew = w54 at BK133 HB hHeld ⊢
     refine pure_ (i := 0) (N := some 17) (v := ?_) (a' := ?_) #[true, false, false, false, false, false, false, false, false] rfl rfl (any_of HT_.out (by kernel_rfl)) (fun _ _ _ h => h) (Or.inl ⟨by rfl, ?_⟩) ?_ ?_
     rotate_left
     ·
      intro w'
      go_simp
      with_reducible rfl
     rotate_left
     ·
      simp only [Act.put, List.setIfInBounds_toArray, List.set_cons_zero, List.set_cons_succ, i64_w, i32_w]
      rfl
     refine pure_ (i := 1) (N := some 18) (v := ?_) (a' := ?_) #[true, true, false, false, false, false, false, false, false] rfl rfl (any_of HT_.out (by kernel_rfl)) (fun _ _ _ h => h) (Or.inl ⟨by rfl, ?_⟩) ?_ ?_
     rotate_left
     ·
      intro w'
      go_simp
      with_reducible rfl
     rotate_left
     ·
      simp only [Act.put, List.setIfInBounds_toArray, List.set_cons_zero, List.set_cons_succ, i64_w, i32_w]
      rfl
     refine pure_ (i := 2) (N := some 19) (v := ?_) (a' := ?_) #[true, true, true, false, false, false, false, false, false] rfl rfl (any_of HT_.out (by kernel_rfl)) (fun _ _ _ h => h) (Or.inl ⟨by rfl, ?_⟩) ?_ ?_
     rotate_left
     ·
      intro w'
      go_simp
      with_reducible rfl
     rotate_left
     ·
      simp only [Act.put, List.setIfInBounds_toArray, List.set_cons_zero, List.set_cons_succ, i64_w, i32_w]
      rfl
     refine pure_ (i := 3) (N := some 20) (v := ?_) (a' := ?_) #[true, true, true, true, false, false, false, false, false] rfl rfl (any_of HT_.out (by kernel_rfl)) (fun _ _ _ h => h) (Or.inl ⟨by rfl, ?_⟩) ?_ ?_
     rotate_left
     ·
      intro w'
      go_simp
      with_reducible rfl
     rotate_left
     ·
      simp only [Act.put, List.setIfInBounds_toArray, List.set_cons_zero, List.set_cons_succ, i64_w, i32_w]
      rfl
     refine pure_ (i := 4) (N := some 21) (v := ?_) (a' := ?_) #[true, true, true, true, true, false, false, false, false] rfl rfl (any_of HT_.out (by kernel_rfl)) (fun _ _ _ h => h) (Or.inl ⟨by rfl, ?_⟩) ?_ ?_
     rotate_left
     ·
      intro w'
      go_simp
      with_reducible rfl
     rotate_left
     ·
      simp only [Act.put, List.setIfInBounds_toArray, List.set_cons_zero, List.set_cons_succ, i64_w, i32_w]
      rfl
     refine pure_ (i := 5) (N := some 22) (v := ?_) (a' := ?_) #[true, true, true, true, true, true, false, false, false] rfl rfl (any_of HT_.out (by kernel_rfl)) (fun _ _ _ h => h) (Or.inl ⟨by rfl, ?_⟩) ?_ ?_
     rotate_left
     ·
      intro w'
      go_simp
      with_reducible rfl
     rotate_left
     ·
      simp only [Act.put, List.setIfInBounds_toArray, List.set_cons_zero, List.set_cons_succ, i64_w, i32_w]
      rfl
     refine pure_ (i := 6) (N := some 23) (v := ?_) (a' := ?_) #[true, true, true, true, true, true, true, false, false] rfl rfl (any_of HT_.out (by kernel_rfl)) (fun _ _ _ h => h) (Or.inl ⟨by rfl, ?_⟩) ?_ ?_
     rotate_left
     ·
      intro w'
      go_simp
      with_reducible rfl
     rotate_left
     ·
      simp only [Act.put, List.setIfInBounds_toArray, List.set_cons_zero, List.set_cons_succ, i64_w, i32_w]
      rfl
     refine one_ (i := 7) (N := some 7) #[true, true, true, true, true, true, true, true, false] rfl rfl (one_of HT_.out (by kernel_rfl)) (by decide) (fun K hK => ?_)
     refine box_step ?hg (N := 7) ?hd (cs := #[.int .i64 0, .int .i64 0]) (t := 23) ?hr ?_; (case hd => rfl); (case hg => rfl); (case hr => first | (go_simp; done) | (go_simp; rfl))
     intro gb137 hg w55 hbox hb
     have n0_ := Aside0.mk (blk_below (g := gb133) (o := .cells #[.int .i64 0, .int .i64 0] 23 (0, 0)) (by (with_reducible repeat first | apply b1 | apply b2 | apply b3); exact BK133.out) hb)
     have n1_ := Aside0.mk (below_step (by repeat (first | (with_reducible first | exact HB.out | apply b4 | apply b5 | apply b6 | refine below_set ?_ GE133.out) | exact HB.out)) hb)
     have n2_ := Aside0.mk (hbox)
     have n3_ := Aside0.mk ((by rw [hg]; exact (below_size (by repeat (first | (with_reducible first | exact HB.out | apply b4 | apply b5 | apply b6 | refine below_set ?_ GE133.out) | exact HB.out))) : w.heap.size ≤ gb137))
     have n4_ := Aside0.mk ((by rw [hg]; exact (below_size (by repeat (first | (with_reducible first | exact HB.out | apply b4 | apply b5 | apply b6 | refine below_set ?_ GE133.out) | exact HB.out))) : w.heap.size ≤ gb137))
     have n5_ := Aside0.mk ((by rw [hg]; exact Nat.ne_of_lt (blk_lt (g := gb133) (o := .cells #[.int .i64 0, .int .i64 0] 23 (0, 0)) (by (with_reducible repeat first | apply b1 | apply b2 | apply b3); exact BK133.out)) : gb133 ≠ gb137))
     have n6_ := Aside0.mk ((by rw [hg]; exact Nat.ne_of_gt (blk_lt (g := gb133) (o := .cells #[.int .i64 0, .int .i64 0] 23 (0, 0)) (by (with_reducible repeat first | apply b1 | apply b2 | apply b3); exact BK133.out)) : gb137 ≠ gb133))
     clear BK133
     clear HB
     have BK133 := n0_
     have HB := n1_
     have BK137 := n2_
     have GW137 := n3_
     have GE137 := n4_
     have NB133_137 := n5_
     have NB137_133 := n6_
     clear n0_ n1_ n2_ n3_ n4_ n5_ n6_
     clear hb hbox hg
     refine hK.out _ _ trivial (fun hHeld => ?_)
     clear hK K
     refine norm_ (a' := ?_) ?_ ?_
     rotate_left
     ·
      show Act.put _ (some 7) _ = _
      simp only [Act.put, List.setIfInBounds_toArray, List.set_cons_zero, List.set_cons_succ, i64_w, i32_w]
      rfl
     refine one_ (i := 8) (N := none) #[true, true, true, true, true, true, true, true, true] rfl rfl (one_of HT_.out (by kernel_rfl)) (by decide) (fun K hK => ?_)
     have hs56 : w55.cell? ⟨gb137, 0, none⟩ = some (.int .i64 0) := (blk_cell BK137.out 0).trans rfl
     have hfs56 := blk_frozen BK137.out 0
     have hns56_0 := NB133_137.out
     have hms56_0 := NB137_133.out
     have hs57 : w55.cell? ⟨gb137, 1, none⟩ = some (.int .i64 0) := (blk_cell BK137.out 1).trans rfl
     have hfs57 := blk_frozen BK137.out 1
     have hns57_0 := NB133_137.out
     have hms57_0 := NB137_133.out
     refine skip_ (w1 := ?_) (by rfl) rfl ?_ ?_
     rotate_left
     ·
      go_simp
      rfl
     refine hK.out _ _ trivial (fun hHeld => ?_)
     clear hK K
     refine done_ (done_of HT_.out (by kernel_rfl)) ?_
     have hnb58 := NB137_133.out
     have hnc58 := NB133_137.out
     have hcz59_0 : w55.cell? ⟨gb137, 0, none⟩ = some (.int .i64 0) := (blk_cell BK137.out 0).trans rfl
     have hcz59_1 : w55.cell? ⟨gb137, 1, none⟩ = some (.int .i64 0) := (blk_cell BK137.out 1).trans rfl
     have hfz59_0 := blk_frozen BK137.out 0
     have hfz59_1 := blk_frozen BK137.out 1
     have hcz60_0 : w55.cell? ⟨gb133, 0, none⟩ = some (.int .i64 0) := (blk_cell BK133.out 0).trans rfl
     have hcz60_1 : w55.cell? ⟨gb133, 1, none⟩ = some (.int .i64 0) := (blk_cell BK133.out 1).trans rfl
     have hfz60_0 := blk_frozen BK133.out 0
     have hfz60_1 := blk_frozen BK133.out 1
     try go_wp2
     refine bodyPost_ret (results_ct rfl _ _ gb133 23 #[.int .i64 0, .int .i64 0] (0, 0) _ rfl (by (with_reducible repeat first | apply b1 | apply b2 | apply b3); refine blk_put (cs := #[.int .i64 0, .int .i64 0]) ?_ 1 _ rfl; (with_reducible repeat first | apply b1 | apply b2 | apply b3); refine blk_put (cs := #[.int .i64 0, .int .i64 0]) ?_ 0 _ rfl; (with_reducible repeat first | apply b1 | apply b2 | apply b3); refine blk_far ?_ NB133_137.out _; (with_reducible repeat first | apply b1 | apply b2 | apply b3); refine blk_far ?_ NB133_137.out _; (with_reducible repeat first | apply b1 | apply b2 | apply b3); exact BK133.out) Tryd.underlying23 rfl (by kernel_rfl)) rfl ?_
     exact ⟨by first | rfl | (simp [errW_none, errW_some] <;> rfl) | (simp [*, errW_none, errW_some] <;> rfl), by repeat (first | (with_reducible first | exact HB.out | apply b4 | apply b5 | apply b6 | refine below_set ?_ GE133.out | refine below_set ?_ GE137.out) | exact HB.out)⟩
    ·
     rw [if_neg c52] at H
     have c52b0 : decide (1000000000 < (wrap64 (Int.tdiv a0 t136))) = false := decide_eq_false c52
     clear c52
     by_cases c61 : (wrap64 (Int.tdiv a1 t136)) > 1000000
     ·
      rw [if_pos c61] at H
      have c61b0 : decide (1000000 < (wrap64 (Int.tdiv a1 t136))) = true := decide_eq_true c61
      clear c61
      simp only [Option.some.injEq, Prod.mk.injEq] at H
      obtain ⟨rfl, rfl, rfl⟩ := H
      go_enter Tryd.func43, Tryd.ntmps43
      try go_wp2_with (first | ((with_reducible refine gate_dst (N := 4) rfl ?_); refine box_event ?hg (N := 4) ?hd (cs := #[.int .i64 0, .int .i64 0]) (t := 23) ?hr ?_; (case hd => rfl); (case hg => rfl); (case hr => first | (go_simp; done) | (go_simp; rfl)); intro gb133 hg w62 hbox hb; have n0_ := Aside0.mk (below_step (by repeat (first | (with_reducible first | exact HB.out | apply b4 | apply b5 | apply b6) | exact HB.out)) hb); have n1_ := Aside0.mk (hbox); have n2_ := Aside0.mk ((by rw [hg]; exact (below_size (by repeat (first | (with_reducible first | exact HB.out | apply b4 | apply b5 | apply b6) | exact HB.out))) : w.heap.size ≤ gb133)); have n3_ := Aside0.mk ((by rw [hg]; exact (below_size (by repeat (first | (with_reducible first | exact HB.out | apply b4 | apply b5 | apply b6) | exact HB.out))) : w.heap.size ≤ gb133)); clear HB; have HB := n0_; have BK133 := n1_; have GW133 := n2_; have GE133 := n3_; clear n0_ n1_ n2_ n3_; clear hb hbox hg) | ((with_reducible refine gate_callee (f := 50) rfl ?_); refine goesL_ (some 16) rfl rfl Tryd.func50 (by kernel_rfl) rfl #[.int .i64 a0, .int .i64 a1] rfl (by (try simp only [List.map_toArray, List.map_cons, List.map_nil]); first | done | rfl | (simp only [List.length_drop, List.length_take]; rfl)) ?_; (with_reducible refine (assessorref46_gcd.calls k a0 a1 t136 _ A41.out).mono ?_); rintro e w' ⟨rfl, ⟨nd, rfl⟩⟩; refine ⟨_, rfl, ?_⟩; (try (rw [drewN_self w62]; generalize hq_ : World.drewN w62 _ = w62; have n0_ : Aside0 (w62.heap[gb133]? = some (.cells #[.int .i64 0, .int .i64 0] 23 (0, 0))) := ⟨by rw [← hq_]; exact (by (with_reducible repeat first | apply b1 | apply b2 | apply b3); exact BK133.out)⟩; have n1_ : Aside0 (Below w.heap.size w w62) := ⟨by rw [← hq_]; exact (by repeat (first | (with_reducible first | exact HB.out | apply b4 | apply b5 | apply b6 | refine below_set ?_ GE133.out) | exact HB.out))⟩; clear BK133 HB hq_; have BK133 := n0_; have HB := n1_; clear n0_ n1_))))
      have n0_ := Aside0.mk (blk_drew BK133.out)
      have n1_ := Aside0.mk (below_drew1 HB.out)
      clear BK133
      clear HB
      have BK133 := n0_
      have HB := n1_
      clear n0_ n1_
      refine start_ (n := 9) (S := fun w' => True) (ds := []) #[false, false, false, false, false, false, false, false, false] (by kernel_rfl) rfl rfl trivial (fun hHeld => ?_); refine with_tabW assessorref46_reduce.tab4 assessorref46_reduce.bits4 (fun HT_ HW_ => ?_)
      generalize w62.drew = w63 at BK133 HB hHeld ⊢
      refine pure_ (i := 0) (N := some 17) (v := ?_) (a' := ?_) #[true, false, false, false, false, false, false, false, false] rfl rfl (any_of HT_.out (by kernel_rfl)) (fun _ _ _ h => h) (Or.inl ⟨by rfl, ?_⟩) ?_ ?_
      rotate_left
      ·
       intro w'
       go_simp
       with_reducible rfl
      rotate_left
      ·
       simp only [Act.put, List.setIfInBounds_toArray, List.set_cons_zero, List.set_cons_succ, i64_w, i32_w]
       rfl
      refine pure_ (i := 1) (N := some 18) (v := ?_) (a' := ?_) #[true, true, false, false, false, false, false, false, false] rfl rfl (any_of HT_.out (by kernel_rfl)) (fun _ _ _ h => h) (Or.inl ⟨by rfl, ?_⟩) ?_ ?_
      rotate_left
      ·
       intro w'
       go_simp
       with_reducible rfl
      rotate_left
      ·
       simp only [Act.put, List.setIfInBounds_toArray, List.set_cons_zero, List.set_cons_succ, i64_w, i32_w]
       rfl
      refine pure_ (i := 2) (N := some 19) (v := ?_) (a' := ?_) #[true, true, true, false, false, false, false, false, false] rfl rfl (any_of HT_.out (by kernel_rfl)) (fun _ _ _ h => h) (Or.inl ⟨by rfl, ?_⟩) ?_ ?_
      rotate_left
      ·
       intro w'
       go_simp
       with_reducible rfl
      rotate_left
      ·
       simp only [Act.put, List.setIfInBounds_toArray, List.set_cons_zero, List.set_cons_succ, i64_w, i32_w]
       rfl
      refine pure_ (i := 3) (N := some 20) (v := ?_) (a' := ?_) #[true, true, true, true, false, false, false, false, false] rfl rfl (any_of HT_.out (by kernel_rfl)) (fun _ _ _ h => h) (Or.inl ⟨by rfl, ?_⟩) ?_ ?_
      rotate_left
      ·
       intro w'
       go_simp
       with_reducible rfl
      rotate_left
      ·
       simp only [Act.put, List.setIfInBounds_toArray, List.set_cons_zero, List.set_cons_succ, i64_w, i32_w]
       rfl
      refine pure_ (i := 4) (N := some 21) (v := ?_) (a' := ?_) #[true, true, true, true, true, false, false, false, false] rfl rfl (any_of HT_.out (by kernel_rfl)) (fun _ _ _ h => h) (Or.inl ⟨by rfl, ?_⟩) ?_ ?_
      rotate_left
      ·
       intro w'
       go_simp
       with_reducible rfl
      rotate_left
      ·
       simp only [Act.put, List.setIfInBounds_toArray, List.set_cons_zero, List.set_cons_succ, i64_w, i32_w]
       rfl
      refine pure_ (i := 5) (N := some 22) (v := ?_) (a' := ?_) #[true, true, true, true, true, true, false, false, false] rfl rfl (any_of HT_.out (by kernel_rfl)) (fun _ _ _ h => h) (Or.inl ⟨by rfl, ?_⟩) ?_ ?_
      rotate_left
      ·
       intro w'
       go_simp
       with_reducible rfl
      rotate_left
      ·
       simp only [Act.put, List.setIfInBounds_toArray, List.set_cons_zero, List.set_cons_succ, i64_w, i32_w]
       rfl
      refine pure_ (i := 6) (N := some 23) (v := ?_) (a' := ?_) #[true, true, true, true, true, true, true, false, false] rfl rfl (any_of HT_.out (by kernel_rfl)) (fun _ _ _ h => h) (Or.inl ⟨by rfl, ?_⟩) ?_ ?_
      rotate_left
      ·
       intro w'
       go_simp
       with_reducible rfl
      rotate_left
      ·
       simp only [Act.put, List.setIfInBounds_toArray, List.set_cons_zero, List.set_cons_succ, i64_w, i32_w]
       rfl
      refine one_ (i := 7) (N := some 7) #[true, true, true, true, true, true, true, true, false] rfl rfl (one_of HT_.out (by kernel_rfl)) (by decide) (fun K hK => ?_)
      refine box_step ?hg (N := 7) ?hd (cs := #[.int .i64 0, .int .i64 0]) (t := 23) ?hr ?_; (case hd => rfl); (case hg => rfl); (case hr => first | (go_simp; done) | (go_simp; rfl))
      intro gb137 hg w64 hbox hb
      have n0_ := Aside0.mk (blk_below (g := gb133) (o := .cells #[.int .i64 0, .int .i64 0] 23 (0, 0)) (by (with_reducible repeat first | apply b1 | apply b2 | apply b3); exact BK133.out) hb)
      have n1_ := Aside0.mk (below_step (by repeat (first | (with_reducible first | exact HB.out | apply b4 | apply b5 | apply b6 | refine below_set ?_ GE133.out) | exact HB.out)) hb)
      have n2_ := Aside0.mk (hbox)
      have n3_ := Aside0.mk ((by rw [hg]; exact (below_size (by repeat (first | (with_reducible first | exact HB.out | apply b4 | apply b5 | apply b6 | refine below_set ?_ GE133.out) | exact HB.out))) : w.heap.size ≤ gb137))
      have n4_ := Aside0.mk ((by rw [hg]; exact (below_size (by repeat (first | (with_reducible first | exact HB.out | apply b4 | apply b5 | apply b6 | refine below_set ?_ GE133.out) | exact HB.out))) : w.heap.size ≤ gb137))
      have n5_ := Aside0.mk ((by rw [hg]; exact Nat.ne_of_lt (blk_lt (g := gb133) (o := .cells #[.int .i64 0, .int .i64 0] 23 (0, 0)) (by (with_reducible repeat first | apply b1 | apply b2 | apply b3); exact BK133.out)) : gb133 ≠ gb137))
      have n6_ := Aside0.mk ((by rw [hg]; exact Nat.ne_of_gt (blk_lt (g := gb133) (o := .cells #[.int .i64 0, .int .i64 0] 23 (0, 0)) (by (with_reducible repeat first | apply b1 | apply b2 | apply b3); exact BK133.out)) : gb137 ≠ gb133))
      clear BK133
      clear HB
      have BK133 := n0_
      have HB := n1_
      have BK137 := n2_
      have GW137 := n3_
      have GE137 := n4_
      have NB133_137 := n5_
      have NB137_133 := n6_
      clear n0_ n1_ n2_ n3_ n4_ n5_ n6_
      clear hb hbox hg
      refine hK.out _ _ trivial (fun hHeld => ?_)
      clear hK K
      refine norm_ (a' := ?_) ?_ ?_
      rotate_left
      ·
       show Act.put _ (some 7) _ = _
       simp only [Act.put, List.setIfInBounds_toArray, List.set_cons_zero, List.set_cons_succ, i64_w, i32_w]
       rfl
      refine one_ (i := 8) (N := none) #[true, true, true, true, true, true, true, true, true] rfl rfl (one_of HT_.out (by kernel_rfl)) (by decide) (fun K hK => ?_)
      have hs65 : w64.cell? ⟨gb137, 0, none⟩ = some (.int .i64 0) := (blk_cell BK137.out 0).trans rfl
      have hfs65 := blk_frozen BK137.out 0
      have hns65_0 := NB133_137.out
      have hms65_0 := NB137_133.out
      have hs66 : w64.cell? ⟨gb137, 1, none⟩ = some (.int .i64 0) := (blk_cell BK137.out 1).trans rfl
      have hfs66 := blk_frozen BK137.out 1
      have hns66_0 := NB133_137.out
      have hms66_0 := NB137_133.out
      refine skip_ (w1 := ?_) (by rfl) rfl ?_ ?_
      rotate_left
      ·
       go_simp
       rfl
      refine hK.out _ _ trivial (fun hHeld => ?_)
      clear hK K
      refine done_ (done_of HT_.out (by kernel_rfl)) ?_
      have hnb67 := NB137_133.out
      have hnc67 := NB133_137.out
      have hcz68_0 : w64.cell? ⟨gb137, 0, none⟩ = some (.int .i64 0) := (blk_cell BK137.out 0).trans rfl
      have hcz68_1 : w64.cell? ⟨gb137, 1, none⟩ = some (.int .i64 0) := (blk_cell BK137.out 1).trans rfl
      have hfz68_0 := blk_frozen BK137.out 0
      have hfz68_1 := blk_frozen BK137.out 1
      have hcz69_0 : w64.cell? ⟨gb133, 0, none⟩ = some (.int .i64 0) := (blk_cell BK133.out 0).trans rfl
      have hcz69_1 : w64.cell? ⟨gb133, 1, none⟩ = some (.int .i64 0) := (blk_cell BK133.out 1).trans rfl
      have hfz69_0 := blk_frozen BK133.out 0
      have hfz69_1 := blk_frozen BK133.out 1
      try go_wp2
      refine bodyPost_ret (results_ct rfl _ _ gb133 23 #[.int .i64 0, .int .i64 0] (0, 0) _ rfl (by (with_reducible repeat first | apply b1 | apply b2 | apply b3); refine blk_put (cs := #[.int .i64 0, .int .i64 0]) ?_ 1 _ rfl; (with_reducible repeat first | apply b1 | apply b2 | apply b3); refine blk_put (cs := #[.int .i64 0, .int .i64 0]) ?_ 0 _ rfl; (with_reducible repeat first | apply b1 | apply b2 | apply b3); refine blk_far ?_ NB133_137.out _; (with_reducible repeat first | apply b1 | apply b2 | apply b3); refine blk_far ?_ NB133_137.out _; (with_reducible repeat first | apply b1 | apply b2 | apply b3); exact BK133.out) Tryd.underlying23 rfl (by kernel_rfl)) rfl ?_
      exact ⟨by first | rfl | (simp [errW_none, errW_some] <;> rfl) | (simp [*, errW_none, errW_some] <;> rfl), by repeat (first | (with_reducible first | exact HB.out | apply b4 | apply b5 | apply b6 | refine below_set ?_ GE133.out | refine below_set ?_ GE137.out) | exact HB.out)⟩
     ·
      rw [if_neg c61] at H
      have c61b0 : decide (1000000 < (wrap64 (Int.tdiv a1 t136))) = false := decide_eq_false c61
      clear c61
      simp only [Option.some.injEq, Prod.mk.injEq] at H
      obtain ⟨rfl, rfl, rfl⟩ := H
      go_enter Tryd.func43, Tryd.ntmps43
      try go_wp2_with (first | ((with_reducible refine gate_dst (N := 4) rfl ?_); refine box_event ?hg (N := 4) ?hd (cs := #[.int .i64 0, .int .i64 0]) (t := 23) ?hr ?_; (case hd => rfl); (case hg => rfl); (case hr => first | (go_simp; done) | (go_simp; rfl)); intro gb133 hg w70 hbox hb; have n0_ := Aside0.mk (below_step (by repeat (first | (with_reducible first | exact HB.out | apply b4 | apply b5 | apply b6) | exact HB.out)) hb); have n1_ := Aside0.mk (hbox); have n2_ := Aside0.mk ((by rw [hg]; exact (below_size (by repeat (first | (with_reducible first | exact HB.out | apply b4 | apply b5 | apply b6) | exact HB.out))) : w.heap.size ≤ gb133)); have n3_ := Aside0.mk ((by rw [hg]; exact (below_size (by repeat (first | (with_reducible first | exact HB.out | apply b4 | apply b5 | apply b6) | exact HB.out))) : w.heap.size ≤ gb133)); clear HB; have HB := n0_; have BK133 := n1_; have GW133 := n2_; have GE133 := n3_; clear n0_ n1_ n2_ n3_; clear hb hbox hg) | ((with_reducible refine gate_callee (f := 50) rfl ?_); refine goesL_ (some 16) rfl rfl Tryd.func50 (by kernel_rfl) rfl #[.int .i64 a0, .int .i64 a1] rfl (by (try simp only [List.map_toArray, List.map_cons, List.map_nil]); first | done | rfl | (simp only [List.length_drop, List.length_take]; rfl)) ?_; (with_reducible refine (assessorref46_gcd.calls k a0 a1 t136 _ A41.out).mono ?_); rintro e w' ⟨rfl, ⟨nd, rfl⟩⟩; refine ⟨_, rfl, ?_⟩; (try (rw [drewN_self w70]; generalize hq_ : World.drewN w70 _ = w70; have n0_ : Aside0 (w70.heap[gb133]? = some (.cells #[.int .i64 0, .int .i64 0] 23 (0, 0))) := ⟨by rw [← hq_]; exact (by (with_reducible repeat first | apply b1 | apply b2 | apply b3); exact BK133.out)⟩; have n1_ : Aside0 (Below w.heap.size w w70) := ⟨by rw [← hq_]; exact (by repeat (first | (with_reducible first | exact HB.out | apply b4 | apply b5 | apply b6 | refine below_set ?_ GE133.out) | exact HB.out))⟩; clear BK133 HB hq_; have BK133 := n0_; have HB := n1_; clear n0_ n1_))))
      have n0_ := Aside0.mk (blk_drew BK133.out)
      have n1_ := Aside0.mk (below_drew1 HB.out)
      clear BK133
      clear HB
      have BK133 := n0_
      have HB := n1_
      clear n0_ n1_
      refine start_ (n := 9) (S := fun w' => True) (ds := []) #[false, false, false, false, false, false, false, false, false] (by kernel_rfl) rfl rfl trivial (fun hHeld => ?_); refine with_tabW assessorref46_reduce.tab4 assessorref46_reduce.bits4 (fun HT_ HW_ => ?_)
      generalize w70.drew = w71 at BK133 HB hHeld ⊢
      refine pure_ (i := 0) (N := some 17) (v := ?_) (a' := ?_) #[true, false, false, false, false, false, false, false, false] rfl rfl (any_of HT_.out (by kernel_rfl)) (fun _ _ _ h => h) (Or.inl ⟨by rfl, ?_⟩) ?_ ?_
      rotate_left
      ·
       intro w'
       go_simp
       with_reducible rfl
      rotate_left
      ·
       simp only [Act.put, List.setIfInBounds_toArray, List.set_cons_zero, List.set_cons_succ, i64_w, i32_w]
       rfl
      refine pure_ (i := 1) (N := some 18) (v := ?_) (a' := ?_) #[true, true, false, false, false, false, false, false, false] rfl rfl (any_of HT_.out (by kernel_rfl)) (fun _ _ _ h => h) (Or.inl ⟨by rfl, ?_⟩) ?_ ?_
      rotate_left
      ·
       intro w'
       go_simp
       with_reducible rfl
      rotate_left
      ·
       simp only [Act.put, List.setIfInBounds_toArray, List.set_cons_zero, List.set_cons_succ, i64_w, i32_w]
       rfl
      refine pure_ (i := 2) (N := some 19) (v := ?_) (a' := ?_) #[true, true, true, false, false, false, false, false, false] rfl rfl (any_of HT_.out (by kernel_rfl)) (fun _ _ _ h => h) (Or.inl ⟨by rfl, ?_⟩) ?_ ?_
      rotate_left
      ·
       intro w'
       go_simp
       with_reducible rfl
      rotate_left
      ·
       simp only [Act.put, List.setIfInBounds_toArray, List.set_cons_zero, List.set_cons_succ, i64_w, i32_w]
       rfl
      refine pure_ (i := 3) (N := some 20) (v := ?_) (a' := ?_) #[true, true, true, true, false, false, false, false, false] rfl rfl (any_of HT_.out (by kernel_rfl)) (fun _ _ _ h => h) (Or.inl ⟨by rfl, ?_⟩) ?_ ?_
      rotate_left
      ·
       intro w'
       go_simp
       with_reducible rfl
      rotate_left
      ·
       simp only [Act.put, List.setIfInBounds_toArray, List.set_cons_zero, List.set_cons_succ, i64_w, i32_w]
       rfl
      refine pure_ (i := 4) (N := some 21) (v := ?_) (a' := ?_) #[true, true, true, true, true, false, false, false, false] rfl rfl (any_of HT_.out (by kernel_rfl)) (fun _ _ _ h => h) (Or.inl ⟨by rfl, ?_⟩) ?_ ?_
      rotate_left
      ·
       intro w'
       go_simp
       with_reducible rfl
      rotate_left
      ·
       simp only [Act.put, List.setIfInBounds_toArray, List.set_cons_zero, List.set_cons_succ, i64_w, i32_w]
       rfl
      refine pure_ (i := 5) (N := some 22) (v := ?_) (a' := ?_) #[true, true, true, true, true, true, false, false, false] rfl rfl (any_of HT_.out (by kernel_rfl)) (fun _ _ _ h => h) (Or.inl ⟨by rfl, ?_⟩) ?_ ?_
      rotate_left
      ·
       intro w'
       go_simp
       with_reducible rfl
      rotate_left
      ·
       simp only [Act.put, List.setIfInBounds_toArray, List.set_cons_zero, List.set_cons_succ, i64_w, i32_w]
       rfl
      refine pure_ (i := 6) (N := some 23) (v := ?_) (a' := ?_) #[true, true, true, true, true, true, true, false, false] rfl rfl (any_of HT_.out (by kernel_rfl)) (fun _ _ _ h => h) (Or.inl ⟨by rfl, ?_⟩) ?_ ?_
      rotate_left
      ·
       intro w'
       go_simp
       with_reducible rfl
      rotate_left
      ·
       simp only [Act.put, List.setIfInBounds_toArray, List.set_cons_zero, List.set_cons_succ, i64_w, i32_w]
       rfl
      refine one_ (i := 7) (N := some 7) #[true, true, true, true, true, true, true, true, false] rfl rfl (one_of HT_.out (by kernel_rfl)) (by decide) (fun K hK => ?_)
      refine box_step ?hg (N := 7) ?hd (cs := #[.int .i64 0, .int .i64 0]) (t := 23) ?hr ?_; (case hd => rfl); (case hg => rfl); (case hr => first | (go_simp; done) | (go_simp; rfl))
      intro gb137 hg w72 hbox hb
      have n0_ := Aside0.mk (blk_below (g := gb133) (o := .cells #[.int .i64 0, .int .i64 0] 23 (0, 0)) (by (with_reducible repeat first | apply b1 | apply b2 | apply b3); exact BK133.out) hb)
      have n1_ := Aside0.mk (below_step (by repeat (first | (with_reducible first | exact HB.out | apply b4 | apply b5 | apply b6 | refine below_set ?_ GE133.out) | exact HB.out)) hb)
      have n2_ := Aside0.mk (hbox)
      have n3_ := Aside0.mk ((by rw [hg]; exact (below_size (by repeat (first | (with_reducible first | exact HB.out | apply b4 | apply b5 | apply b6 | refine below_set ?_ GE133.out) | exact HB.out))) : w.heap.size ≤ gb137))
      have n4_ := Aside0.mk ((by rw [hg]; exact (below_size (by repeat (first | (with_reducible first | exact HB.out | apply b4 | apply b5 | apply b6 | refine below_set ?_ GE133.out) | exact HB.out))) : w.heap.size ≤ gb137))
      have n5_ := Aside0.mk ((by rw [hg]; exact Nat.ne_of_lt (blk_lt (g := gb133) (o := .cells #[.int .i64 0, .int .i64 0] 23 (0, 0)) (by (with_reducible repeat first | apply b1 | apply b2 | apply b3); exact BK133.out)) : gb133 ≠ gb137))
      have n6_ := Aside0.mk ((by rw [hg]; exact Nat.ne_of_gt (blk_lt (g := gb133) (o := .cells #[.int .i64 0, .int .i64 0] 23 (0, 0)) (by (with_reducible repeat first | apply b1 | apply b2 | apply b3); exact BK133.out)) : gb137 ≠ gb133))
      clear BK133
      clear HB
      have BK133 := n0_
      have HB := n1_
      have BK137 := n2_
      have GW137 := n3_
      have GE137 := n4_
      have NB133_137 := n5_
      have NB137_133 := n6_
      clear n0_ n1_ n2_ n3_ n4_ n5_ n6_
      clear hb hbox hg
      refine hK.out _ _ trivial (fun hHeld => ?_)
      clear hK K
      refine norm_ (a' := ?_) ?_ ?_
      rotate_left
      ·
       show Act.put _ (some 7) _ = _
       simp only [Act.put, List.setIfInBounds_toArray, List.set_cons_zero, List.set_cons_succ, i64_w, i32_w]
       rfl
      refine one_ (i := 8) (N := none) #[true, true, true, true, true, true, true, true, true] rfl rfl (one_of HT_.out (by kernel_rfl)) (by decide) (fun K hK => ?_)
      have hs73 : w72.cell? ⟨gb137, 0, none⟩ = some (.int .i64 0) := (blk_cell BK137.out 0).trans rfl
      have hfs73 := blk_frozen BK137.out 0
      have hns73_0 := NB133_137.out
      have hms73_0 := NB137_133.out
      have hs74 : w72.cell? ⟨gb137, 1, none⟩ = some (.int .i64 0) := (blk_cell BK137.out 1).trans rfl
      have hfs74 := blk_frozen BK137.out 1
      have hns74_0 := NB133_137.out
      have hms74_0 := NB137_133.out
      refine skip_ (w1 := ?_) (by rfl) rfl ?_ ?_
      rotate_left
      ·
       go_simp
       rfl
      refine hK.out _ _ trivial (fun hHeld => ?_)
      clear hK K
      refine done_ (done_of HT_.out (by kernel_rfl)) ?_
      have hnb75 := NB137_133.out
      have hnc75 := NB133_137.out
      have hcz76_0 : w72.cell? ⟨gb137, 0, none⟩ = some (.int .i64 0) := (blk_cell BK137.out 0).trans rfl
      have hcz76_1 : w72.cell? ⟨gb137, 1, none⟩ = some (.int .i64 0) := (blk_cell BK137.out 1).trans rfl
      have hfz76_0 := blk_frozen BK137.out 0
      have hfz76_1 := blk_frozen BK137.out 1
      have hcz77_0 : w72.cell? ⟨gb133, 0, none⟩ = some (.int .i64 0) := (blk_cell BK133.out 0).trans rfl
      have hcz77_1 : w72.cell? ⟨gb133, 1, none⟩ = some (.int .i64 0) := (blk_cell BK133.out 1).trans rfl
      have hfz77_0 := blk_frozen BK133.out 0
      have hfz77_1 := blk_frozen BK133.out 1
      try go_wp2
      refine bodyPost_ret (results_ct rfl _ _ gb133 23 #[.int .i64 (wrap64 (Int.tdiv a0 t136)), .int .i64 (wrap64 (Int.tdiv a1 t136))] (0, 0) _ rfl (by (with_reducible repeat first | apply b1 | apply b2 | apply b3); refine blk_put (cs := #[.int .i64 (wrap64 (Int.tdiv a0 t136)), .int .i64 0]) ?_ 1 _ rfl; (with_reducible repeat first | apply b1 | apply b2 | apply b3); refine blk_put (cs := #[.int .i64 0, .int .i64 0]) ?_ 0 _ rfl; (with_reducible repeat first | apply b1 | apply b2 | apply b3); refine blk_far ?_ NB133_137.out _; (with_reducible repeat first | apply b1 | apply b2 | apply b3); refine blk_far ?_ NB133_137.out _; (with_reducible repeat first | apply b1 | apply b2 | apply b3); exact BK133.out) Tryd.underlying23 rfl (by kernel_rfl)) rfl ?_
      exact ⟨by first | rfl | (simp [errW_none, errW_some] <;> rfl) | (simp [*, errW_none, errW_some] <;> rfl), by repeat (first | (with_reducible first | exact HB.out | apply b4 | apply b5 | apply b6 | refine below_set ?_ GE133.out | refine below_set ?_ GE137.out) | exact HB.out)⟩

end Go.Proofs.YtkfibjmjamdigaaDoor.Q

namespace Go.Proofs.YtkfibjmjamdigaaDoor.Q
open Go.RowKit Go.Proofs.YtkfibjmjamdigaaDoorW.PrintWords Go.Proofs.YtkfibjmjamdigaaDoorW.PrintLast Go.Proofs.YtkfibjmjamdigaaDoorW.PrintMore
attribute [local go_sem] max2_int min2_int max_two min_two max_three min_three max_four min_four   -- for this text's walks alone
set_option linter.unusedVariables false
set_option linter.unusedSimpArgs false
attribute [-simp] ByteArray.size_extract


mutual
def assessorref46_Parse.j0 : Nat → ByteArray → Int → Bool → Option (Int × Int × Int)
 | 0, _, _, _ => none
 | k + 1, x0, x4, x19 => if x19 = true then (if 1 ≤ (x0.size : Int) then (assessorref46_Parse.j1 k (x0.extract 1 x0.size) (-1)) else (none)) else (assessorref46_Parse.j1 k x0 x4)
def assessorref46_Parse.j1 : Nat → ByteArray → Int → Option (Int × Int × Int)
 | 0, _, _ => none
 | k + 1, x0, x4 => (assessorref46_digits.f k x0).bind fun bt413 => (if bt413.1 < 1 then (assessorref46_Parse.j2 k x0 x4 bt413.1 bt413.2 true) else (assessorref46_Parse.j2 k x0 x4 bt413.1 bt413.2 (decide (bt413.1 > 10))))
def assessorref46_Parse.j2 : Nat → ByteArray → Int → Int → Int → Bool → Option (Int × Int × Int)
 | 0, _, _, _, _, _ => none
 | k + 1, x0, x4, x5, x6, x32 => if x32 = true then (some (0, 0, 3)) else (if 0 ≤ x5 then (if x5 ≤ (x0.size : Int) then (if (x0.extract (x5 : Int).toNat x0.size).toList = ([] : List UInt8) then ((assessorref46_reduce.f k (wrap64 (x4 * x6)) 1).bind fun bt415 => (some (bt415.1, bt415.2.1, bt415.2.2))) else (if 1 ≤ ((x0.extract (x5 : Int).toNat x0.size).size : Int) then ((assessorref46_digits.f k ((x0.extract (x5 : Int).toNat x0.size).extract 1 (x0.extract (x5 : Int).toNat x0.size).size)).bind fun bt418 => (if (wrap64 (bt418.1 + 1)) = ((x0.extract (x5 : Int).toNat x0.size).size : Int) then (if bt418.1 < 1 then (assessorref46_Parse.j3 k x4 x6 (x0.extract (x5 : Int).toNat x0.size) bt418.1 bt418.2 true) else (if 0 < ((x0.extract (x5 : Int).toNat x0.size).size : Int) then (if (bt (x0.extract (x5 : Int).toNat x0.size) 0) = 46 then (if bt418.1 > 6 then (assessorref46_Parse.j3 k x4 x6 (x0.extract (x5 : Int).toNat x0.size) bt418.1 bt418.2 true) else (assessorref46_Parse.j3 k x4 x6 (x0.extract (x5 : Int).toNat x0.size) bt418.1 bt418.2 (decide (bt418.1 > 7)))) else (if (bt (x0.extract (x5 : Int).toNat x0.size) 0) = 47 then (assessorref46_Parse.j3 k x4 x6 (x0.extract (x5 : Int).toNat x0.size) bt418.1 bt418.2 (decide (bt418.1 > 7))) else (assessorref46_Parse.j3 k x4 x6 (x0.extract (x5 : Int).toNat x0.size) bt418.1 bt418.2 true))) else (none))) else (assessorref46_Parse.j3 k x4 x6 (x0.extract (x5 : Int).toNat x0.size) bt418.1 bt418.2 true))) else (none))) else (none)) else (none))
def assessorref46_Parse.j3 : Nat → Int → Int → ByteArray → Int → Int → Bool → Option (Int × Int × Int)
 | 0, _, _, _, _, _, _ => none
 | k + 1, x4, x6, x7, x8, x9, x82 => if x82 = true then (some (0, 0, 3)) else (if 0 < (x7.size : Int) then (if (bt x7 0) = 47 then (if x9 = 0 then (some (0, 0, 2)) else ((assessorref46_reduce.f k (wrap64 (x4 * x6)) x9).bind fun bt420 => (some (bt420.1, bt420.2.1, bt420.2.2)))) else (assessorref46_Parse.l0 k x4 x6 x8 x9 1 0)) else (none))
def assessorref46_Parse.l0 : Nat → Int → Int → Int → Int → Int → Int → Option (Int × Int × Int)
 | 0, _, _, _, _, _, _ => none
 | k + 1, x4, x6, x8, x9, x10, x11 => if x11 < x8 then (assessorref46_Parse.l0 k x4 x6 x8 x9 (wrap64 (10 * x10)) (wrap64 (x11 + 1))) else ((assessorref46_reduce.f k (wrap64 (x4 * (wrap64 ((wrap64 (x6 * x10)) + x9)))) x10).bind fun bt423 => (some (bt423.1, bt423.2.1, bt423.2.2)))
end
def assessorref46_Parse.f (k : Nat) (a0 : ByteArray) : Option (Int × Int × Int) := if (a0.size : Int) > 0 then (if 0 < (a0.size : Int) then (assessorref46_Parse.j0 k a0 1 ((bt a0 0) == 45)) else (none)) else (assessorref46_Parse.j0 k a0 1 false)
theorem assessorref46_Parse.mono_l : ∀ k, (∀ y0 y1 y2, LeO (assessorref46_Parse.j0 k y0 y1 y2) (assessorref46_Parse.j0 (k + 1) y0 y1 y2)) ∧ (∀ y0 y1, LeO (assessorref46_Parse.j1 k y0 y1) (assessorref46_Parse.j1 (k + 1) y0 y1)) ∧ (∀ y0 y1 y2 y3 y4, LeO (assessorref46_Parse.j2 k y0 y1 y2 y3 y4) (assessorref46_Parse.j2 (k + 1) y0 y1 y2 y3 y4)) ∧ (∀ y0 y1 y2 y3 y4 y5, LeO (assessorref46_Parse.j3 k y0 y1 y2 y3 y4 y5) (assessorref46_Parse.j3 (k + 1) y0 y1 y2 y3 y4 y5)) ∧ (∀ y0 y1 y2 y3 y4 y5, LeO (assessorref46_Parse.l0 k y0 y1 y2 y3 y4 y5) (assessorref46_Parse.l0 (k + 1) y0 y1 y2 y3 y4 y5))
 | 0 => ⟨fun _ _ _ r h => by simp [assessorref46_Parse.j0] at h, fun _ _ r h => by simp [assessorref46_Parse.j1] at h, fun _ _ _ _ _ r h => by simp [assessorref46_Parse.j2] at h, fun _ _ _ _ _ _ r h => by simp [assessorref46_Parse.j3] at h, fun _ _ _ _ _ _ r h => by simp [assessorref46_Parse.l0] at h⟩
 | k + 1 => by
  obtain ⟨ih0, ih1, ih2, ih3, ih4⟩ := assessorref46_Parse.mono_l k
  refine ⟨?_, ?_, ?_, ?_, ?_⟩
  ·
   intro y0 y1 y2
   unfold assessorref46_Parse.j0
   repeat' first
   | (with_reducible exact ih0 _ _ _)
   | (with_reducible exact ih1 _ _)
   | (with_reducible exact ih2 _ _ _ _ _)
   | (with_reducible exact ih3 _ _ _ _ _ _)
   | (with_reducible exact ih4 _ _ _ _ _ _)
   | (with_reducible exact assessorref46_digits.mono _ _)
   | (with_reducible exact assessorref46_reduce.mono _ _ _)
   | (with_reducible exact LeO.refl _)
   | (with_reducible exact LeO.none _)
   | (with_reducible refine LeO.ite ?_ ?_)
   | (with_reducible refine LeO.bind ?_ (fun _ => ?_))
   | exact ih0 _ _ _
   | exact ih1 _ _
   | exact ih2 _ _ _ _ _
   | exact ih3 _ _ _ _ _ _
   | exact ih4 _ _ _ _ _ _
   | exact assessorref46_digits.mono _ _
   | exact assessorref46_reduce.mono _ _ _
   | exact LeO.none _
   | refine LeO.ite ?_ ?_
   | refine LeO.bind ?_ (fun _ => ?_)
  ·
   intro y0 y1
   unfold assessorref46_Parse.j1
   repeat' first
   | (with_reducible exact ih0 _ _ _)
   | (with_reducible exact ih1 _ _)
   | (with_reducible exact ih2 _ _ _ _ _)
   | (with_reducible exact ih3 _ _ _ _ _ _)
   | (with_reducible exact ih4 _ _ _ _ _ _)
   | (with_reducible exact assessorref46_digits.mono _ _)
   | (with_reducible exact assessorref46_reduce.mono _ _ _)
   | (with_reducible exact LeO.refl _)
   | (with_reducible exact LeO.none _)
   | (with_reducible refine LeO.ite ?_ ?_)
   | (with_reducible refine LeO.bind ?_ (fun _ => ?_))
   | exact ih0 _ _ _
   | exact ih1 _ _
   | exact ih2 _ _ _ _ _
   | exact ih3 _ _ _ _ _ _
   | exact ih4 _ _ _ _ _ _
   | exact assessorref46_digits.mono _ _
   | exact assessorref46_reduce.mono _ _ _
   | exact LeO.none _
   | refine LeO.ite ?_ ?_
   | refine LeO.bind ?_ (fun _ => ?_)
  ·
   intro y0 y1 y2 y3 y4
   unfold assessorref46_Parse.j2
   repeat' first
   | (with_reducible exact ih0 _ _ _)
   | (with_reducible exact ih1 _ _)
   | (with_reducible exact ih2 _ _ _ _ _)
   | (with_reducible exact ih3 _ _ _ _ _ _)
   | (with_reducible exact ih4 _ _ _ _ _ _)
   | (with_reducible exact assessorref46_digits.mono _ _)
   | (with_reducible exact assessorref46_reduce.mono _ _ _)
   | (with_reducible exact LeO.refl _)
   | (with_reducible exact LeO.none _)
   | (with_reducible refine LeO.ite ?_ ?_)
   | (with_reducible refine LeO.bind ?_ (fun _ => ?_))
   | exact ih0 _ _ _
   | exact ih1 _ _
   | exact ih2 _ _ _ _ _
   | exact ih3 _ _ _ _ _ _
   | exact ih4 _ _ _ _ _ _
   | exact assessorref46_digits.mono _ _
   | exact assessorref46_reduce.mono _ _ _
   | exact LeO.none _
   | refine LeO.ite ?_ ?_
   | refine LeO.bind ?_ (fun _ => ?_)
  ·
   intro y0 y1 y2 y3 y4 y5
   unfold assessorref46_Parse.j3
   repeat' first
   | (with_reducible exact ih0 _ _ _)
   | (with_reducible exact ih1 _ _)
   | (with_reducible exact ih2 _ _ _ _ _)
   | (with_reducible exact ih3 _ _ _ _ _ _)
   | (with_reducible exact ih4 _ _ _ _ _ _)
   | (with_reducible exact assessorref46_digits.mono _ _)
   | (with_reducible exact assessorref46_reduce.mono _ _ _)
   | (with_reducible exact LeO.refl _)
   | (with_reducible exact LeO.none _)
   | (with_reducible refine LeO.ite ?_ ?_)
   | (with_reducible refine LeO.bind ?_ (fun _ => ?_))
   | exact ih0 _ _ _
   | exact ih1 _ _
   | exact ih2 _ _ _ _ _
   | exact ih3 _ _ _ _ _ _
   | exact ih4 _ _ _ _ _ _
   | exact assessorref46_digits.mono _ _
   | exact assessorref46_reduce.mono _ _ _
   | exact LeO.none _
   | refine LeO.ite ?_ ?_
   | refine LeO.bind ?_ (fun _ => ?_)
  ·
   intro y0 y1 y2 y3 y4 y5
   unfold assessorref46_Parse.l0
   repeat' first
   | (with_reducible exact ih0 _ _ _)
   | (with_reducible exact ih1 _ _)
   | (with_reducible exact ih2 _ _ _ _ _)
   | (with_reducible exact ih3 _ _ _ _ _ _)
   | (with_reducible exact ih4 _ _ _ _ _ _)
   | (with_reducible exact assessorref46_digits.mono _ _)
   | (with_reducible exact assessorref46_reduce.mono _ _ _)
   | (with_reducible exact LeO.refl _)
   | (with_reducible exact LeO.none _)
   | (with_reducible refine LeO.ite ?_ ?_)
   | (with_reducible refine LeO.bind ?_ (fun _ => ?_))
   | exact ih0 _ _ _
   | exact ih1 _ _
   | exact ih2 _ _ _ _ _
   | exact ih3 _ _ _ _ _ _
   | exact ih4 _ _ _ _ _ _
   | exact assessorref46_digits.mono _ _
   | exact assessorref46_reduce.mono _ _ _
   | exact LeO.none _
   | refine LeO.ite ?_ ?_
   | refine LeO.bind ?_ (fun _ => ?_)
theorem assessorref46_Parse.mono : ∀ a0 k, LeO (assessorref46_Parse.f k a0) (assessorref46_Parse.f (k + 1) a0) := by
 intro a0 k
 obtain ⟨ih0, ih1, ih2, ih3, ih4⟩ := assessorref46_Parse.mono_l k
 unfold assessorref46_Parse.f
 repeat' first
   | (with_reducible exact ih0 _ _ _)
   | (with_reducible exact ih1 _ _)
   | (with_reducible exact ih2 _ _ _ _ _)
   | (with_reducible exact ih3 _ _ _ _ _ _)
   | (with_reducible exact ih4 _ _ _ _ _ _)
   | (with_reducible exact assessorref46_digits.mono _ _)
   | (with_reducible exact assessorref46_reduce.mono _ _ _)
   | (with_reducible exact LeO.refl _)
   | (with_reducible exact LeO.none _)
   | (with_reducible refine LeO.ite ?_ ?_)
   | (with_reducible refine LeO.bind ?_ (fun _ => ?_))
   | exact ih0 _ _ _
   | exact ih1 _ _
   | exact ih2 _ _ _ _ _
   | exact ih3 _ _ _ _ _ _
   | exact ih4 _ _ _ _ _ _
   | exact assessorref46_digits.mono _ _
   | exact assessorref46_reduce.mono _ _ _
   | exact LeO.none _
   | refine LeO.ite ?_ ?_
   | refine LeO.bind ?_ (fun _ => ?_)
set_option maxHeartbeats 8000000 in
set_option maxRecDepth 100000 in
theorem assessorref46_Parse.calls (k : Nat) (a0 : ByteArray) (r1 : Int) (r2 : Int) (r3 : Int) (w : World) (h : assessorref46_Parse.f k a0 = some (r1, r2, r3)) :
  Calls Tryd.prog 40 #[.string a0] w fun e w' => e = .returned (.tuple #[.agg #[.int .i64 r1, .int .i64 r2], .int .i64 r3]) ∧ Below w.heap.size w w' := by
 have hu23 := Tryd.underlying23
 have HB := Aside0.mk (Below.refl w.heap.size w)
 have H : (if (a0.size : Int) > 0 then (if 0 < (a0.size : Int) then (assessorref46_Parse.j0 k a0 1 ((bt a0 0) == 45)) else (none)) else (assessorref46_Parse.j0 k a0 1 false)) = some (r1, r2, r3) := h
 clear h
 have HC2 := Aside0.mk H
 clear H
 go_enter Tryd.func40, Tryd.ntmps40
 go_upto_region 2 with (first | ((with_reducible refine gate_dst (N := 2) rfl ?_); refine box_event ?hg (N := 2) ?hd (cs := #[.int .i64 0, .int .i64 0]) (t := 23) ?hr ?_; (case hd => rfl); (case hg => rfl); (case hr => first | (go_simp; done) | (go_simp; rfl)); intro gb412 hg w3 hbox hb; have n0_ := Aside0.mk (below_step (by repeat (first | (with_reducible first | exact HB.out | apply b4 | apply b5 | apply b6) | exact HB.out)) hb); have n1_ := Aside0.mk (hbox); have n2_ := Aside0.mk ((by rw [hg]; exact (below_size (by repeat (first | (with_reducible first | exact HB.out | apply b4 | apply b5 | apply b6) | exact HB.out))) : w.heap.size ≤ gb412)); have n3_ := Aside0.mk ((by rw [hg]; exact (below_size (by repeat (first | (with_reducible first | exact HB.out | apply b4 | apply b5 | apply b6) | exact HB.out))) : w.heap.size ≤ gb412)); clear HB; have HB := n0_; have BK412 := n1_; have GW412 := n2_; have GE412 := n3_; clear n0_ n1_ n2_ n3_; clear hb hbox hg))
 repeat (go_quiet (first | ((with_reducible refine gate_dst (N := 2) rfl ?_); refine box_event ?hg (N := 2) ?hd (cs := #[.int .i64 0, .int .i64 0]) (t := 23) ?hr ?_; (case hd => rfl); (case hg => rfl); (case hr => first | (go_simp; done) | (go_simp; rfl)); intro gb412 hg w3 hbox hb; have n0_ := Aside0.mk (below_step (by repeat (first | (with_reducible first | exact HB.out | apply b4 | apply b5 | apply b6) | exact HB.out)) hb); have n1_ := Aside0.mk (hbox); have n2_ := Aside0.mk ((by rw [hg]; exact (below_size (by repeat (first | (with_reducible first | exact HB.out | apply b4 | apply b5 | apply b6) | exact HB.out))) : w.heap.size ≤ gb412)); have n3_ := Aside0.mk ((by rw [hg]; exact (below_size (by repeat (first | (with_reducible first | exact HB.out | apply b4 | apply b5 | apply b6) | exact HB.out))) : w.heap.size ≤ gb412)); clear HB; have HB := n0_; have BK412 := n1_; have GW412 := n2_; have GE412 := n3_; clear n0_ n1_ n2_ n3_; clear hb hbox hg)); go_upto_region 2 with (first | ((with_reducible refine gate_dst (N := 2) rfl ?_); refine box_event ?hg (N := 2) ?hd (cs := #[.int .i64 0, .int .i64 0]) (t := 23) ?hr ?_; (case hd => rfl); (case hg => rfl); (case hr => first | (go_simp; done) | (go_simp; rfl)); intro gb412 hg w3 hbox hb; have n0_ := Aside0.mk (below_step (by repeat (first | (with_reducible first | exact HB.out | apply b4 | apply b5 | apply b6) | exact HB.out)) hb); have n1_ := Aside0.mk (hbox); have n2_ := Aside0.mk ((by rw [hg]; exact (below_size (by repeat (first | (with_reducible first | exact HB.out | apply b4 | apply b5 | apply b6) | exact HB.out))) : w.heap.size ≤ gb412)); have n3_ := Aside0.mk ((by rw [hg]; exact (below_size (by repeat (first | (with_reducible first | exact HB.out | apply b4 | apply b5 | apply b6) | exact HB.out))) : w.heap.size ≤ gb412)); clear HB; have HB := n0_; have BK412 := n1_; have GW412 := n2_; have GE412 := n3_; clear n0_ n1_ n2_ n3_; clear hb hbox hg)))
 (try simp only [Act.put, List.setIfInBounds_toArray, List.set_cons_zero, List.set_cons_succ])
 go_cut [19] (fun v19 wc => ∃ (kq : Nat) (x19_1 : Bool), v19 = .bool x19_1 ∧ Aside0 (assessorref46_Parse.j0 kq a0 1 x19_1 = some (r1, r2, r3)) ∧ Aside0 (kq ≤ k) ∧ Aside0 (wc.heap[gb412]? = some (.cells #[.int .i64 0, .int .i64 0] 23 (0, 0))) ∧ Aside0 (Below w.heap.size w wc))
 case first =>
  have H := HC2.out
  clear HC2
  by_cases c4 : (a0.size : Int) > 0
  ·
   rw [if_pos c4] at H
   have c4b0 : decide (0 < (a0.size : Int)) = true := decide_eq_true c4
   have c4b1 : decide (0 < a0.size) = true := decide_eq_true (by omega)
   clear c4
   (first | rw [c4b0] | (simp only [i64_w, i32_w]; rw [c4b0]) | skip)
   by_cases c5 : 0 < (a0.size : Int)
   ·
    rw [if_pos c5] at H
    have c5b0 : decide (0 < (a0.size : Int)) = true := decide_eq_true c5
    have c5b1 : decide (0 < a0.size) = true := decide_eq_true (by omega)
    clear c5
    have H' := Aside0.mk H
    clear H
    have p6 : 0 ≤ (0 : Int) := (by omega)
    have q6 : 0 < a0.size := (by have : (0 : Int) < (a0.size : Int) := of_decide_eq_true (by first | (with_reducible assumption) | assumption); omega)
    have hx6 : ∀ h : 0 < a0.size, ((a0[0]'h).toNat : Int) = bt a0 0 := bt_at a0 0
    clear p6
    have qi6 : (0 < (a0.size : Int)) = True := eq_true (of_decide_eq_true (by first | (with_reducible assumption) | assumption))
    replace q6 := eq_true q6
    go_wp2
    repeat (go_quiet (fail); try go_wp2)
    go_meet
    case rel => exact ⟨_, (((bt a0 0) == 45)), (by first | rfl | (simp; done) | (simp [*]; done)), H', ⟨by first | omega | exact Nat.le_refl _⟩, ⟨by (with_reducible repeat first | apply b1 | apply b2 | apply b3); exact BK412.out⟩, ⟨by repeat (first | (with_reducible first | exact HB.out | apply b4 | apply b5 | apply b6 | refine below_set ?_ GE412.out) | exact HB.out)⟩⟩
   ·
    rw [if_neg c5] at H
    exact absurd H (by simp)
  ·
   rw [if_neg c4] at H
   have c4b0 : decide (0 < (a0.size : Int)) = false := decide_eq_false c4
   have c4b1 : decide (0 < a0.size) = false := decide_eq_false (by omega)
   clear c4
   (first | rw [c4b0] | (simp only [i64_w, i32_w]; rw [c4b0]) | skip)
   have H' := Aside0.mk H
   clear H
   go_wp2
   repeat (go_quiet (fail); try go_wp2)
   go_meet
   case rel => exact ⟨_, (false), (by first | rfl | (simp; done) | (simp [*]; done)), H', ⟨by first | omega | exact Nat.le_refl _⟩, ⟨by (with_reducible repeat first | apply b1 | apply b2 | apply b3); exact BK412.out⟩, ⟨by repeat (first | (with_reducible first | exact HB.out | apply b4 | apply b5 | apply b6 | refine below_set ?_ GE412.out) | exact HB.out)⟩⟩
 case rest =>
  clear HC2
  try clear p2
  try clear c4
  try clear c4b0
  try clear c4b1
  try clear c5
  try clear c5b0
  try clear c5b1
  try clear p6
  try clear q6
  try clear hx6
  try clear qi6
  try clear p6
  try clear q6
  obtain ⟨kq, x19_1, rfl, HA, HJ1, BK412, HB⟩ := hcut
  cases kq with
  | zero => exact absurd HA.out (by simp [assessorref46_Parse.j0])
  | succ kj1 =>
   have H := HA.out
   clear HA
   simp only [assessorref46_Parse.j0] at H
   have HC7 := Aside0.mk H
   clear H
   go_upto_if 19 with (fail)
   repeat (go_quiet (fail); go_upto_if 19 with (fail))
   go_cut [0, 4] (fun v0 v4 wc => ∃ (kq : Nat) (x0_6 : ByteArray) (x4_6 : Int), v0 = .string x0_6 ∧ v4 = .int .i64 x4_6 ∧ Aside0 (assessorref46_Parse.j1 kq x0_6 x4_6 = some (r1, r2, r3)) ∧ Aside0 (kq ≤ kj1) ∧ Aside0 (wc.heap[gb412]? = some (.cells #[.int .i64 0, .int .i64 0] 23 (0, 0))) ∧ Aside0 (Below w.heap.size w wc))
   case first =>
    have H := HC7.out
    clear HC7
    by_cases c8 : x19_1 = true
    ·
     subst c8
     have H1 : (if 1 ≤ (a0.size : Int) then (assessorref46_Parse.j1 kj1 (a0.extract 1 a0.size) (-1)) else (none)) = some (r1, r2, r3) := by rw [if_pos rfl] at H; exact H
     clear H
     have H := H1
     clear H1
     by_cases c9 : 1 ≤ (a0.size : Int)
     ·
      rw [if_pos c9] at H
      have c9b0 := eq_true c9
      have c9b1 : decide (1 ≤ (a0.size : Int)) = true := decide_eq_true c9
      clear c9
      have H' := Aside0.mk H
      clear H
      go_wp2
      repeat (go_quiet (fail); try go_wp2)
      go_meet
      case rel => exact ⟨_, (a0.extract 1 a0.size), ((-1)), (by first | rfl | (simp; done) | (simp [*]; done)), (by first | rfl | (simp; done) | (simp [*]; done)), H', ⟨by have := HJ1.out; first | omega | exact Nat.le_refl _⟩, ⟨by (with_reducible repeat first | apply b1 | apply b2 | apply b3); exact BK412.out⟩, ⟨by repeat (first | (with_reducible first | exact HB.out | apply b4 | apply b5 | apply b6 | refine below_set ?_ GE412.out) | exact HB.out)⟩⟩
     ·
      rw [if_neg c9] at H
      exact absurd H (by simp)
    ·
     replace c8 := Bool.eq_false_iff.mpr c8
     subst c8
     have H1 : (assessorref46_Parse.j1 kj1 a0 1) = some (r1, r2, r3) := by rw [if_neg (show ¬ (false = true) by decide)] at H; exact H
     clear H
     have H := H1
     clear H1
     have H' := Aside0.mk H
     clear H
     go_wp2
     repeat (go_quiet (fail); try go_wp2)
     go_meet
     case rel => exact ⟨_, (a0), (1), (by first | rfl | (simp; done) | (simp [*]; done)), (by first | rfl | (simp; done) | (simp [*]; done)), H', ⟨by have := HJ1.out; first | omega | exact Nat.le_refl _⟩, ⟨by (with_reducible repeat first | apply b1 | apply b2 | apply b3); exact BK412.out⟩, ⟨by repeat (first | (with_reducible first | exact HB.out | apply b4 | apply b5 | apply b6 | refine below_set ?_ GE412.out) | exact HB.out)⟩⟩
   case rest =>
    clear HC7
    try clear p2
    try clear c4
    try clear c4b0
    try clear c4b1
    try clear c5
    try clear c5b0
    try clear c5b1
    try clear p6
    try clear q6
    try clear hx6
    try clear qi6
    try clear c8
    try clear c9
    try clear c9b0
    try clear c9b1
    try clear p2
    try clear p6
    try clear q6
    obtain ⟨kq, x0_6, x4_6, rfl, rfl, HA, HJ6, BK412, HB⟩ := hcut
    cases kq with
    | zero => exact absurd HA.out (by simp [assessorref46_Parse.j1])
    | succ kj6 =>
     have H := HA.out
     clear HA
     simp only [assessorref46_Parse.j1] at H
     replace H := Option.bind_eq_some_iff.mp H
     obtain ⟨⟨t413, t414⟩, A100, H⟩ := H
     replace H : (if t413 < 1 then (assessorref46_Parse.j2 kj6 x0_6 x4_6 t413 t414 true) else (assessorref46_Parse.j2 kj6 x0_6 x4_6 t413 t414 (decide (t413 > 10)))) = some (r1, r2, r3) := H
     have A10 := Aside0.mk A100
     clear A100
     have HC11 := Aside0.mk H
     clear H
     go_upto_region 5 with (first | (go_at_call 63; (with_reducible refine (assessorref46_digits.calls kj6 x0_6 t413 t414 _ A10.out).mono ?_); rintro e w' ⟨rfl, ⟨nd, rfl⟩⟩; (try first | exact ⟨rfl, _, World.drewN_drewN _ _ _⟩ | exact ⟨rfl, _, Eq.trans (World.drewN_drewN _ _ _) (congrArg (World.drewN _) (Nat.add_assoc _ _ _))⟩)))
     repeat (go_quiet (first | (go_at_call 63; (with_reducible refine (assessorref46_digits.calls kj6 x0_6 t413 t414 _ A10.out).mono ?_); rintro e w' ⟨rfl, ⟨nd, rfl⟩⟩; (try first | exact ⟨rfl, _, World.drewN_drewN _ _ _⟩ | exact ⟨rfl, _, Eq.trans (World.drewN_drewN _ _ _) (congrArg (World.drewN _) (Nat.add_assoc _ _ _))⟩))); go_upto_region 5 with (first | (go_at_call 63; (with_reducible refine (assessorref46_digits.calls kj6 x0_6 t413 t414 _ A10.out).mono ?_); rintro e w' ⟨rfl, ⟨nd, rfl⟩⟩; (try first | exact ⟨rfl, _, World.drewN_drewN _ _ _⟩ | exact ⟨rfl, _, Eq.trans (World.drewN_drewN _ _ _) (congrArg (World.drewN _) (Nat.add_assoc _ _ _))⟩))))
     (try simp only [Act.put, List.setIfInBounds_toArray, List.set_cons_zero, List.set_cons_succ])
     go_cut [32] (fun v32 wc => ∃ (kq : Nat) (x32_10 : Bool), v32 = .bool x32_10 ∧ Aside0 (assessorref46_Parse.j2 kq x0_6 x4_6 t413 t414 x32_10 = some (r1, r2, r3)) ∧ Aside0 (kq ≤ kj6) ∧ Aside0 (wc.heap[gb412]? = some (.cells #[.int .i64 0, .int .i64 0] 23 (0, 0))) ∧ Aside0 (Below w.heap.size w wc))
     case first =>
      have H := HC11.out
      clear HC11
      by_cases c12 : t413 < 1
      ·
       rw [if_pos c12] at H
       have c12b0 : decide (t413 < 1) = true := decide_eq_true c12
       clear c12
       (first | rw [c12b0] | (simp only [i64_w, i32_w]; rw [c12b0]) | skip)
       have H' := Aside0.mk H
       clear H
       go_wp2
       repeat (go_quiet (fail); try go_wp2)
       go_meet
       case rel => exact ⟨_, (true), (by first | rfl | (simp; done) | (simp [*]; done)), H', ⟨by have := HJ1.out; have := HJ6.out; first | omega | exact Nat.le_refl _⟩, ⟨by (with_reducible repeat first | apply b1 | apply b2 | apply b3); exact BK412.out⟩, ⟨by repeat (first | (with_reducible first | exact HB.out | apply b4 | apply b5 | apply b6 | refine below_set ?_ GE412.out) | exact HB.out)⟩⟩
      ·
       rw [if_neg c12] at H
       have c12b0 : decide (t413 < 1) = false := decide_eq_false c12
       clear c12
       (first | rw [c12b0] | (simp only [i64_w, i32_w]; rw [c12b0]) | skip)
       have H' := Aside0.mk H
       clear H
       go_wp2
       repeat (go_quiet (fail); try go_wp2)
       go_meet
       case rel => exact ⟨_, (decide (t413 > 10)), (by first | rfl | (simp; done) | (simp [*]; done)), H', ⟨by have := HJ1.out; have := HJ6.out; first | omega | exact Nat.le_refl _⟩, ⟨by (with_reducible repeat first | apply b1 | apply b2 | apply b3); exact BK412.out⟩, ⟨by repeat (first | (with_reducible first | exact HB.out | apply b4 | apply b5 | apply b6 | refine below_set ?_ GE412.out) | exact HB.out)⟩⟩
     case rest =>
      clear HC11
      try clear c1
      try clear p2
      try clear c4
      try clear c4b0
      try clear c4b1
      try clear c5
      try clear c5b0
      try clear c5b1
      try clear p6
      try clear q6
      try clear hx6
      try clear qi6
      try clear c8
      try clear c9
      try clear c9b0
      try clear c9b1
      try clear c12
      try clear c12b0
      try clear p2
      try clear p6
      try clear q6
      obtain ⟨kq, x32_10, rfl, HA, HJ10, BK412, HB⟩ := hcut
      cases kq with
      | zero => exact absurd HA.out (by simp [assessorref46_Parse.j2])
      | succ kj10 =>
       have H := HA.out
       clear HA
       simp only [assessorref46_Parse.j2] at H
       by_cases c13 : x32_10 = true
       ·
        subst c13
        have H1 : (some (0, 0, 3)) = some (r1, r2, r3) := by rw [if_pos rfl] at H; exact H
        clear H
        have H := H1
        clear H1
        simp only [Option.some.injEq, Prod.mk.injEq] at H
        obtain ⟨rfl, rfl, rfl⟩ := H
        have hcz14_0 : wc.cell? ⟨gb412, 0, none⟩ = some (.int .i64 0) := (blk_cell BK412.out 0).trans rfl
        have hcz14_1 : wc.cell? ⟨gb412, 1, none⟩ = some (.int .i64 0) := (blk_cell BK412.out 1).trans rfl
        have hfz14_0 := blk_frozen BK412.out 0
        have hfz14_1 := blk_frozen BK412.out 1
        go_wp2
        repeat (go_quiet (fail); try go_wp2)
        refine bodyPost_ret (results_ct rfl _ _ gb412 23 #[.int .i64 0, .int .i64 0] (0, 0) _ rfl (by (with_reducible repeat first | apply b1 | apply b2 | apply b3); refine blk_put (cs := #[.int .i64 0, .int .i64 0]) ?_ 1 _ rfl; (with_reducible repeat first | apply b1 | apply b2 | apply b3); refine blk_put (cs := #[.int .i64 0, .int .i64 0]) ?_ 0 _ rfl; (with_reducible repeat first | apply b1 | apply b2 | apply b3); exact BK412.out) Tryd.underlying23 rfl (by kernel_rfl)) rfl ?_
        exact ⟨by first | rfl | (simp [errW_none, errW_some] <;> rfl) | (simp [*, errW_none, errW_some] <;> rfl), by repeat (first | (with_reducible first | exact HB.out | apply b4 | apply b5 | apply b6 | refine below_set ?_ GE412.out) | exact HB.out)⟩
       ·
        replace c13 := Bool.eq_false_iff.mpr c13
        subst c13
        have H1 : (if 0 ≤ t413 then (if t413 ≤ (x0_6.size : Int) then (if (x0_6.extract (t413 : Int).toNat x0_6.size).toList = ([] : List UInt8) then ((assessorref46_reduce.f kj10 (wrap64 (x4_6 * t414)) 1).bind fun bt415 => (some (bt415.1, bt415.2.1, bt415.2.2))) else (if 1 ≤ ((x0_6.extract (t413 : Int).toNat x0_6.size).size : Int) then ((assessorref46_digits.f kj10 ((x0_6.extract (t413 : Int).toNat x0_6.size).extract 1 (x0_6.extract (t413 : Int).toNat x0_6.size).size)).bind fun bt418 => (if (wrap64 (bt418.1 + 1)) = ((x0_6.extract (t413 : Int).toNat x0_6.size).size : Int) then (if bt418.1 < 1 then (assessorref46_Parse.j3 kj10 x4_6 t414 (x0_6.extract (t413 : Int).toNat x0_6.size) bt418.1 bt418.2 true) else (if 0 < ((x0_6.extract (t413 : Int).toNat x0_6.size).size : Int) then (if (bt (x0_6.extract (t413 : Int).toNat x0_6.size) 0) = 46 then (if bt418.1 > 6 then (assessorref46_Parse.j3 kj10 x4_6 t414 (x0_6.extract (t413 : Int).toNat x0_6.size) bt418.1 bt418.2 true) else (assessorref46_Parse.j3 kj10 x4_6 t414 (x0_6.extract (t413 : Int).toNat x0_6.size) bt418.1 bt418.2 (decide (bt418.1 > 7)))) else (if (bt (x0_6.extract (t413 : Int).toNat x0_6.size) 0) = 47 then (assessorref46_Parse.j3 kj10 x4_6 t414 (x0_6.extract (t413 : Int).toNat x0_6.size) bt418.1 bt418.2 (decide (bt418.1 > 7))) else (assessorref46_Parse.j3 kj10 x4_6 t414 (x0_6.extract (t413 : Int).toNat x0_6.size) bt418.1 bt418.2 true))) else (none))) else (assessorref46_Parse.j3 kj10 x4_6 t414 (x0_6.extract (t413 : Int).toNat x0_6.size) bt418.1 bt418.2 true))) else (none))) else (none)) else (none)) = some (r1, r2, r3) := by rw [if_neg (show ¬ (false = true) by decide)] at H; exact H
        clear H
        have H := H1
        clear H1
        by_cases c15 : 0 ≤ t413
        ·
         rw [if_pos c15] at H
         have c15b0 := eq_true c15
         have c15b1 : decide (0 ≤ t413) = true := decide_eq_true c15
         clear c15
         by_cases c16 : t413 ≤ (x0_6.size : Int)
         ·
          rw [if_pos c16] at H
          have c16b0 := eq_true c16
          have c16b1 : decide (t413 ≤ (x0_6.size : Int)) = true := decide_eq_true c16
          clear c16
          by_cases c17 : (x0_6.extract (t413 : Int).toNat x0_6.size).toList = ([] : List UInt8)
          ·
           rw [if_pos c17] at H
           have c17b0 : ((x0_6.extract (t413 : Int).toNat x0_6.size).toList == ([] : List UInt8)) = true := beq_iff_eq.mpr c17
           have c17b1 : ((x0_6.extract (t413 : Int).toNat x0_6.size).toList != ([] : List UInt8)) = false := bne_eq_false_iff_eq.mpr c17
           clear c17
           replace H := Option.bind_eq_some_iff.mp H
           obtain ⟨⟨t415, t416, t417⟩, A180, H⟩ := H
           replace H : (some (t415, t416, t417)) = some (r1, r2, r3) := H
           have A18 := Aside0.mk A180
           clear A180
           simp only [Option.some.injEq, Prod.mk.injEq] at H
           obtain ⟨rfl, rfl, rfl⟩ := H
           go_wp2_with (first | (go_at_call 43; (with_reducible refine (assessorref46_reduce.calls kj10 (wrap64 (x4_6 * t414)) 1 t415 t416 t417 _ A18.out).mono ?_); rintro e w19 ⟨rfl, hb⟩; have n0_ := Aside0.mk (blk_below (g := gb412) (o := .cells #[.int .i64 0, .int .i64 0] 23 (0, 0)) (by (with_reducible repeat first | apply b1 | apply b2 | apply b3); exact BK412.out) hb); have n1_ := Aside0.mk (below_step (by repeat (first | (with_reducible first | exact HB.out | apply b4 | apply b5 | apply b6 | refine below_set ?_ GE412.out) | exact HB.out)) hb); clear BK412; clear HB; have BK412 := n0_; have HB := n1_; clear n0_ n1_; (try clear hb); (try clear hb2); (try clear hk); (try clear hi); have hcz20_0 : w19.cell? ⟨gb412, 0, none⟩ = some (.int .i64 0) := (blk_cell BK412.out 0).trans rfl; have hcz20_1 : w19.cell? ⟨gb412, 1, none⟩ = some (.int .i64 0) := (blk_cell BK412.out 1).trans rfl; have hfz20_0 := blk_frozen BK412.out 0; have hfz20_1 := blk_frozen BK412.out 1))
           repeat (go_quiet (first | (go_at_call 43; (with_reducible refine (assessorref46_reduce.calls kj10 (wrap64 (x4_6 * t414)) 1 t415 t416 t417 _ A18.out).mono ?_); rintro e w19 ⟨rfl, hb⟩; have n0_ := Aside0.mk (blk_below (g := gb412) (o := .cells #[.int .i64 0, .int .i64 0] 23 (0, 0)) (by (with_reducible repeat first | apply b1 | apply b2 | apply b3); exact BK412.out) hb); have n1_ := Aside0.mk (below_step (by repeat (first | (with_reducible first | exact HB.out | apply b4 | apply b5 | apply b6 | refine below_set ?_ GE412.out) | exact HB.out)) hb); clear BK412; clear HB; have BK412 := n0_; have HB := n1_; clear n0_ n1_; (try clear hb); (try clear hb2); (try clear hk); (try clear hi); have hcz20_0 : w19.cell? ⟨gb412, 0, none⟩ = some (.int .i64 0) := (blk_cell BK412.out 0).trans rfl; have hcz20_1 : w19.cell? ⟨gb412, 1, none⟩ = some (.int .i64 0) := (blk_cell BK412.out 1).trans rfl; have hfz20_0 := blk_frozen BK412.out 0; have hfz20_1 := blk_frozen BK412.out 1)); try go_wp2_with (first | (go_at_call 43; (with_reducible refine (assessorref46_reduce.calls kj10 (wrap64 (x4_6 * t414)) 1 t415 t416 t417 _ A18.out).mono ?_); rintro e w19 ⟨rfl, hb⟩; have n0_ := Aside0.mk (blk_below (g := gb412) (o := .cells #[.int .i64 0, .int .i64 0] 23 (0, 0)) (by (with_reducible repeat first | apply b1 | apply b2 | apply b3); exact BK412.out) hb); have n1_ := Aside0.mk (below_step (by repeat (first | (with_reducible first | exact HB.out | apply b4 | apply b5 | apply b6 | refine below_set ?_ GE412.out) | exact HB.out)) hb); clear BK412; clear HB; have BK412 := n0_; have HB := n1_; clear n0_ n1_; (try clear hb); (try clear hb2); (try clear hk); (try clear hi); have hcz20_0 : w19.cell? ⟨gb412, 0, none⟩ = some (.int .i64 0) := (blk_cell BK412.out 0).trans rfl; have hcz20_1 : w19.cell? ⟨gb412, 1, none⟩ = some (.int .i64 0) := (blk_cell BK412.out 1).trans rfl; have hfz20_0 := blk_frozen BK412.out 0; have hfz20_1 := blk_frozen BK412.out 1)))
           refine bodyPost_ret (results_ct rfl _ _ gb412 23 #[.int .i64 t415, .int .i64 t416] (0, 0) _ rfl (by (with_reducible repeat first | apply b1 | apply b2 | apply b3); refine blk_put (cs := #[.int .i64 t415, .int .i64 0]) ?_ 1 _ rfl; (with_reducible repeat first | apply b1 | apply b2 | apply b3); refine blk_put (cs := #[.int .i64 0, .int .i64 0]) ?_ 0 _ rfl; (with_reducible repeat first | apply b1 | apply b2 | apply b3); exact BK412.out) Tryd.underlying23 rfl (by kernel_rfl)) rfl ?_
           exact ⟨by first | rfl | (simp [errW_none, errW_some] <;> rfl) | (simp [*, errW_none, errW_some] <;> rfl), by repeat (first | (with_reducible first | exact HB.out | apply b4 | apply b5 | apply b6 | refine below_set ?_ GE412.out) | exact HB.out)⟩
          ·
           rw [if_neg c17] at H
           have c17b0 : ((x0_6.extract (t413 : Int).toNat x0_6.size).toList == ([] : List UInt8)) = false := beq_eq_false_iff_ne.mpr c17
           have c17b1 : ((x0_6.extract (t413 : Int).toNat x0_6.size).toList != ([] : List UInt8)) = true := bne_iff_ne.mpr c17
           by_cases c21 : 1 ≤ ((x0_6.extract (t413 : Int).toNat x0_6.size).size : Int)
           ·
            rw [if_pos c21] at H
            have c21b0 := eq_true c21
            have c21b1 : decide (1 ≤ ((x0_6.extract (t413 : Int).toNat x0_6.size).size : Int)) = true := decide_eq_true c21
            clear c21
            replace H := Option.bind_eq_some_iff.mp H
            obtain ⟨⟨t418, t419⟩, A220, H⟩ := H
            replace H : (if (wrap64 (t418 + 1)) = ((x0_6.extract (t413 : Int).toNat x0_6.size).size : Int) then (if t418 < 1 then (assessorref46_Parse.j3 kj10 x4_6 t414 (x0_6.extract (t413 : Int).toNat x0_6.size) t418 t419 true) else (if 0 < ((x0_6.extract (t413 : Int).toNat x0_6.size).size : Int) then (if (bt (x0_6.extract (t413 : Int).toNat x0_6.size) 0) = 46 then (if t418 > 6 then (assessorref46_Parse.j3 kj10 x4_6 t414 (x0_6.extract (t413 : Int).toNat x0_6.size) t418 t419 true) else (assessorref46_Parse.j3 kj10 x4_6 t414 (x0_6.extract (t413 : Int).toNat x0_6.size) t418 t419 (decide (t418 > 7)))) else (if (bt (x0_6.extract (t413 : Int).toNat x0_6.size) 0) = 47 then (assessorref46_Parse.j3 kj10 x4_6 t414 (x0_6.extract (t413 : Int).toNat x0_6.size) t418 t419 (decide (t418 > 7))) else (assessorref46_Parse.j3 kj10 x4_6 t414 (x0_6.extract (t413 : Int).toNat x0_6.size) t418 t419 true))) else (none))) else (assessorref46_Parse.j3 kj10 x4_6 t414 (x0_6.extract (t413 : Int).toNat x0_6.size) t418 t419 true)) = some (r1, r2, r3) := H
            have A22 := Aside0.mk A220
            clear A220
            have HC23 := Aside0.mk H
            clear H
            go_upto_region 11 with (first | (go_at_call 63; (with_reducible refine (assessorref46_digits.calls kj10 ((x0_6.extract (t413 : Int).toNat x0_6.size).extract 1 (x0_6.extract (t413 : Int).toNat x0_6.size).size) t418 t419 _ A22.out).mono ?_); rintro e w' ⟨rfl, ⟨nd, rfl⟩⟩; (try first | exact ⟨rfl, _, World.drewN_drewN _ _ _⟩ | exact ⟨rfl, _, Eq.trans (World.drewN_drewN _ _ _) (congrArg (World.drewN _) (Nat.add_assoc _ _ _))⟩)))
            repeat (go_quiet (first | (go_at_call 63; (with_reducible refine (assessorref46_digits.calls kj10 ((x0_6.extract (t413 : Int).toNat x0_6.size).extract 1 (x0_6.extract (t413 : Int).toNat x0_6.size).size) t418 t419 _ A22.out).mono ?_); rintro e w' ⟨rfl, ⟨nd, rfl⟩⟩; (try first | exact ⟨rfl, _, World.drewN_drewN _ _ _⟩ | exact ⟨rfl, _, Eq.trans (World.drewN_drewN _ _ _) (congrArg (World.drewN _) (Nat.add_assoc _ _ _))⟩))); go_upto_region 11 with (first | (go_at_call 63; (with_reducible refine (assessorref46_digits.calls kj10 ((x0_6.extract (t413 : Int).toNat x0_6.size).extract 1 (x0_6.extract (t413 : Int).toNat x0_6.size).size) t418 t419 _ A22.out).mono ?_); rintro e w' ⟨rfl, ⟨nd, rfl⟩⟩; (try first | exact ⟨rfl, _, World.drewN_drewN _ _ _⟩ | exact ⟨rfl, _, Eq.trans (World.drewN_drewN _ _ _) (congrArg (World.drewN _) (Nat.add_assoc _ _ _))⟩))))
            (try simp only [Act.put, List.setIfInBounds_toArray, List.set_cons_zero, List.set_cons_succ])
            go_cut [82] (fun v82 wc => ∃ (kq : Nat) (x82_22 : Bool), v82 = .bool x82_22 ∧ Aside0 (assessorref46_Parse.j3 kq x4_6 t414 (x0_6.extract (t413 : Int).toNat x0_6.size) t418 t419 x82_22 = some (r1, r2, r3)) ∧ Aside0 (kq ≤ kj10) ∧ Aside0 (wc.heap[gb412]? = some (.cells #[.int .i64 0, .int .i64 0] 23 (0, 0))) ∧ Aside0 (Below w.heap.size w wc))
            case first =>
             have H := HC23.out
             clear HC23
             by_cases c24 : (wrap64 (t418 + 1)) = ((x0_6.extract (t413 : Int).toNat x0_6.size).size : Int)
             ·
              rw [if_pos c24] at H
              have c24b0 : ((wrap64 (t418 + 1)) == ((x0_6.extract (t413 : Int).toNat x0_6.size).size : Int)) = true := beq_iff_eq.mpr c24
              have c24b1 : ((wrap64 (t418 + 1)) != ((x0_6.extract (t413 : Int).toNat x0_6.size).size : Int)) = false := bne_eq_false_iff_eq.mpr c24
              clear c24
              (first | rw [c24b0] | (simp only [i64_w, i32_w]; rw [c24b0]) | skip)
              by_cases c25 : t418 < 1
              ·
               rw [if_pos c25] at H
               have c25b0 : decide (t418 < 1) = true := decide_eq_true c25
               clear c25
               have H' := Aside0.mk H
               clear H
               go_wp2
               repeat (go_quiet (fail); try go_wp2)
               go_meet
               case rel => exact ⟨_, (true), (by first | rfl | (simp; done) | (simp [*]; done)), H', ⟨by have := HJ1.out; have := HJ6.out; have := HJ10.out; first | omega | exact Nat.le_refl _⟩, ⟨by (with_reducible repeat first | apply b1 | apply b2 | apply b3); exact BK412.out⟩, ⟨by repeat (first | (with_reducible first | exact HB.out | apply b4 | apply b5 | apply b6 | refine below_set ?_ GE412.out) | exact HB.out)⟩⟩
              ·
               rw [if_neg c25] at H
               have c25b0 : decide (t418 < 1) = false := decide_eq_false c25
               clear c25
               by_cases c26 : 0 < ((x0_6.extract (t413 : Int).toNat x0_6.size).size : Int)
               ·
                rw [if_pos c26] at H
                have c26b0 : decide (0 < ((x0_6.extract (t413 : Int).toNat x0_6.size).size : Int)) = true := decide_eq_true c26
                have c26b1 : decide (0 < (x0_6.extract (t413 : Int).toNat x0_6.size).size) = true := decide_eq_true (by omega)
                clear c26
                by_cases c28 : (bt (x0_6.extract (t413 : Int).toNat x0_6.size) 0) = 46
                ·
                 rw [if_pos c28] at H
                 have c28b0 : ((bt (x0_6.extract (t413 : Int).toNat x0_6.size) 0) == 46) = true := beq_iff_eq.mpr c28
                 have c28b1 : ((bt (x0_6.extract (t413 : Int).toNat x0_6.size) 0) != 46) = false := bne_eq_false_iff_eq.mpr c28
                 clear c28
                 by_cases c30 : t418 > 6
                 ·
                  rw [if_pos c30] at H
                  have c30b0 : decide (6 < t418) = true := decide_eq_true c30
                  clear c30
                  have H' := Aside0.mk H
                  clear H
                  have p27 : 0 ≤ (0 : Int) := (by omega)
                  have q27 : 0 < (x0_6.extract (t413 : Int).toNat x0_6.size).size := (by have : (0 : Int) < ((x0_6.extract (t413 : Int).toNat x0_6.size).size : Int) := of_decide_eq_true (by first | (with_reducible assumption) | assumption); omega)
                  have hx27 : ∀ h : 0 < (x0_6.extract (t413 : Int).toNat x0_6.size).size, (((x0_6.extract (t413 : Int).toNat x0_6.size)[0]'h).toNat : Int) = bt (x0_6.extract (t413 : Int).toNat x0_6.size) 0 := bt_at (x0_6.extract (t413 : Int).toNat x0_6.size) 0
                  clear p27
                  have qi27 : (0 < ((x0_6.extract (t413 : Int).toNat x0_6.size).size : Int)) = True := eq_true (of_decide_eq_true (by first | (with_reducible assumption) | assumption))
                  replace q27 := eq_true q27
                  have p29 : 0 ≤ (0 : Int) := (by omega)
                  have q29 : 0 < (x0_6.extract (t413 : Int).toNat x0_6.size).size := (by have : (0 : Int) < ((x0_6.extract (t413 : Int).toNat x0_6.size).size : Int) := of_decide_eq_true (by first | (with_reducible assumption) | assumption); omega)
                  have hx29 : ∀ h : 0 < (x0_6.extract (t413 : Int).toNat x0_6.size).size, (((x0_6.extract (t413 : Int).toNat x0_6.size)[0]'h).toNat : Int) = bt (x0_6.extract (t413 : Int).toNat x0_6.size) 0 := bt_at (x0_6.extract (t413 : Int).toNat x0_6.size) 0
                  clear p29
                  have qi29 : (0 < ((x0_6.extract (t413 : Int).toNat x0_6.size).size : Int)) = True := eq_true (of_decide_eq_true (by first | (with_reducible assumption) | assumption))
                  replace q29 := eq_true q29
                  go_wp2
                  repeat (go_quiet (fail); try go_wp2)
                  go_meet
                  case rel => exact ⟨_, (true), (by first | rfl | (simp; done) | (simp [*]; done)), H', ⟨by have := HJ1.out; have := HJ6.out; have := HJ10.out; first | omega | exact Nat.le_refl _⟩, ⟨by (with_reducible repeat first | apply b1 | apply b2 | apply b3); exact BK412.out⟩, ⟨by repeat (first | (with_reducible first | exact HB.out | apply b4 | apply b5 | apply b6 | refine below_set ?_ GE412.out) | exact HB.out)⟩⟩
                 ·
                  rw [if_neg c30] at H
                  have c30b0 : decide (6 < t418) = false := decide_eq_false c30
                  clear c30
                  have H' := Aside0.mk H
                  clear H
                  have p27 : 0 ≤ (0 : Int) := (by omega)
                  have q27 : 0 < (x0_6.extract (t413 : Int).toNat x0_6.size).size := (by have : (0 : Int) < ((x0_6.extract (t413 : Int).toNat x0_6.size).size : Int) := of_decide_eq_true (by first | (with_reducible assumption) | assumption); omega)
                  have hx27 : ∀ h : 0 < (x0_6.extract (t413 : Int).toNat x0_6.size).size, (((x0_6.extract (t413 : Int).toNat x0_6.size)[0]'h).toNat : Int) = bt (x0_6.extract (t413 : Int).toNat x0_6.size) 0 := bt_at (x0_6.extract (t413 : Int).toNat x0_6.size) 0
                  clear p27
                  have qi27 : (0 < ((x0_6.extract (t413 : Int).toNat x0_6.size).size : Int)) = True := eq_true (of_decide_eq_true (by first | (with_reducible assumption) | assumption))
                  replace q27 := eq_true q27
                  have p29 : 0 ≤ (0 : Int) := (by omega)
                  have q29 : 0 < (x0_6.extract (t413 : Int).toNat x0_6.size).size := (by have : (0 : Int) < ((x0_6.extract (t413 : Int).toNat x0_6.size).size : Int) := of_decide_eq_true (by first | (with_reducible assumption) | assumption); omega)
                  have hx29 : ∀ h : 0 < (x0_6.extract (t413 : Int).toNat x0_6.size).size, (((x0_6.extract (t413 : Int).toNat x0_6.size)[0]'h).toNat : Int) = bt (x0_6.extract (t413 : Int).toNat x0_6.size) 0 := bt_at (x0_6.extract (t413 : Int).toNat x0_6.size) 0
                  clear p29
                  have qi29 : (0 < ((x0_6.extract (t413 : Int).toNat x0_6.size).size : Int)) = True := eq_true (of_decide_eq_true (by first | (with_reducible assumption) | assumption))
                  replace q29 := eq_true q29
                  go_wp2
                  repeat (go_quiet (fail); try go_wp2)
                  go_meet
                  case rel => exact ⟨_, (decide (t418 > 7)), (by first | rfl | (simp; done) | (simp [*]; done)), H', ⟨by have := HJ1.out; have := HJ6.out; have := HJ10.out; first | omega | exact Nat.le_refl _⟩, ⟨by (with_reducible repeat first | apply b1 | apply b2 | apply b3); exact BK412.out⟩, ⟨by repeat (first | (with_reducible first | exact HB.out | apply b4 | apply b5 | apply b6 | refine below_set ?_ GE412.out) | exact HB.out)⟩⟩
                ·
                 rw [if_neg c28] at H
                 have c28b0 : ((bt (x0_6.extract (t413 : Int).toNat x0_6.size) 0) == 46) = false := beq_eq_false_iff_ne.mpr c28
                 have c28b1 : ((bt (x0_6.extract (t413 : Int).toNat x0_6.size) 0) != 46) = true := bne_iff_ne.mpr c28
                 by_cases c32 : (bt (x0_6.extract (t413 : Int).toNat x0_6.size) 0) = 47
                 ·
                  rw [if_pos c32] at H
                  have c32b0 : ((bt (x0_6.extract (t413 : Int).toNat x0_6.size) 0) == 47) = true := beq_iff_eq.mpr c32
                  have c32b1 : ((bt (x0_6.extract (t413 : Int).toNat x0_6.size) 0) != 47) = false := bne_eq_false_iff_eq.mpr c32
                  clear c32
                  have H' := Aside0.mk H
                  clear H
                  have p27 : 0 ≤ (0 : Int) := (by omega)
                  have q27 : 0 < (x0_6.extract (t413 : Int).toNat x0_6.size).size := (by have : (0 : Int) < ((x0_6.extract (t413 : Int).toNat x0_6.size).size : Int) := of_decide_eq_true (by first | (with_reducible assumption) | assumption); omega)
                  have hx27 : ∀ h : 0 < (x0_6.extract (t413 : Int).toNat x0_6.size).size, (((x0_6.extract (t413 : Int).toNat x0_6.size)[0]'h).toNat : Int) = bt (x0_6.extract (t413 : Int).toNat x0_6.size) 0 := bt_at (x0_6.extract (t413 : Int).toNat x0_6.size) 0
                  clear p27
                  have qi27 : (0 < ((x0_6.extract (t413 : Int).toNat x0_6.size).size : Int)) = True := eq_true (of_decide_eq_true (by first | (with_reducible assumption) | assumption))
                  replace q27 := eq_true q27
                  have p31 : 0 ≤ (0 : Int) := (by omega)
                  have q31 : 0 < (x0_6.extract (t413 : Int).toNat x0_6.size).size := (by have : (0 : Int) < ((x0_6.extract (t413 : Int).toNat x0_6.size).size : Int) := of_decide_eq_true (by first | (with_reducible assumption) | assumption); omega)
                  have hx31 : ∀ h : 0 < (x0_6.extract (t413 : Int).toNat x0_6.size).size, (((x0_6.extract (t413 : Int).toNat x0_6.size)[0]'h).toNat : Int) = bt (x0_6.extract (t413 : Int).toNat x0_6.size) 0 := bt_at (x0_6.extract (t413 : Int).toNat x0_6.size) 0
                  clear p31
                  have qi31 : (0 < ((x0_6.extract (t413 : Int).toNat x0_6.size).size : Int)) = True := eq_true (of_decide_eq_true (by first | (with_reducible assumption) | assumption))
                  replace q31 := eq_true q31
                  have p33 : 0 ≤ (0 : Int) := (by omega)
                  have q33 : 0 < (x0_6.extract (t413 : Int).toNat x0_6.size).size := (by have : (0 : Int) < ((x0_6.extract (t413 : Int).toNat x0_6.size).size : Int) := of_decide_eq_true (by first | (with_reducible assumption) | assumption); omega)
                  have hx33 : ∀ h : 0 < (x0_6.extract (t413 : Int).toNat x0_6.size).size, (((x0_6.extract (t413 : Int).toNat x0_6.size)[0]'h).toNat : Int) = bt (x0_6.extract (t413 : Int).toNat x0_6.size) 0 := bt_at (x0_6.extract (t413 : Int).toNat x0_6.size) 0
                  clear p33
                  have qi33 : (0 < ((x0_6.extract (t413 : Int).toNat x0_6.size).size : Int)) = True := eq_true (of_decide_eq_true (by first | (with_reducible assumption) | assumption))
                  replace q33 := eq_true q33
                  go_wp2
                  repeat (go_quiet (fail); try go_wp2)
                  go_meet
                  case rel => exact ⟨_, (decide (t418 > 7)), (by first | rfl | (simp; done) | (simp [*]; done)), H', ⟨by have := HJ1.out; have := HJ6.out; have := HJ10.out; first | omega | exact Nat.le_refl _⟩, ⟨by (with_reducible repeat first | apply b1 | apply b2 | apply b3); exact BK412.out⟩, ⟨by repeat (first | (with_reducible first | exact HB.out | apply b4 | apply b5 | apply b6 | refine below_set ?_ GE412.out) | exact HB.out)⟩⟩
                 ·
                  rw [if_neg c32] at H
                  have c32b0 : ((bt (x0_6.extract (t413 : Int).toNat x0_6.size) 0) == 47) = false := beq_eq_false_iff_ne.mpr c32
                  have c32b1 : ((bt (x0_6.extract (t413 : Int).toNat x0_6.size) 0) != 47) = true := bne_iff_ne.mpr c32
                  have H' := Aside0.mk H
                  clear H
                  have p27 : 0 ≤ (0 : Int) := (by omega)
                  have q27 : 0 < (x0_6.extract (t413 : Int).toNat x0_6.size).size := (by have : (0 : Int) < ((x0_6.extract (t413 : Int).toNat x0_6.size).size : Int) := of_decide_eq_true (by first | (with_reducible assumption) | assumption); omega)
                  have hx27 : ∀ h : 0 < (x0_6.extract (t413 : Int).toNat x0_6.size).size, (((x0_6.extract (t413 : Int).toNat x0_6.size)[0]'h).toNat : Int) = bt (x0_6.extract (t413 : Int).toNat x0_6.size) 0 := bt_at (x0_6.extract (t413 : Int).toNat x0_6.size) 0
                  clear p27
                  have qi27 : (0 < ((x0_6.extract (t413 : Int).toNat x0_6.size).size : Int)) = True := eq_true (of_decide_eq_true (by first | (with_reducible assumption) | assumption))
                  replace q27 := eq_true q27
                  have p31 : 0 ≤ (0 : Int) := (by omega)
                  have q31 : 0 < (x0_6.extract (t413 : Int).toNat x0_6.size).size := (by have : (0 : Int) < ((x0_6.extract (t413 : Int).toNat x0_6.size).size : Int) := of_decide_eq_true (by first | (with_reducible assumption) | assumption); omega)
                  have hx31 : ∀ h : 0 < (x0_6.extract (t413 : Int).toNat x0_6.size).size, (((x0_6.extract (t413 : Int).toNat x0_6.size)[0]'h).toNat : Int) = bt (x0_6.extract (t413 : Int).toNat x0_6.size) 0 := bt_at (x0_6.extract (t413 : Int).toNat x0_6.size) 0
                  clear p31
                  have qi31 : (0 < ((x0_6.extract (t413 : Int).toNat x0_6.size).size : Int)) = True := eq_true (of_decide_eq_true (by first | (with_reducible assumption) | assumption))
                  replace q31 := eq_true q31
                  go_wp2
                  repeat (go_quiet (fail); try go_wp2)
                  go_meet
                  case rel => exact ⟨_, (true), (by first | rfl | (simp; done) | (simp [*]; done)), H', ⟨by have := HJ1.out; have := HJ6.out; have := HJ10.out; first | omega | exact Nat.le_refl _⟩, ⟨by (with_reducible repeat first | apply b1 | apply b2 | apply b3); exact BK412.out⟩, ⟨by repeat (first | (with_reducible first | exact HB.out | apply b4 | apply b5 | apply b6 | refine below_set ?_ GE412.out) | exact HB.out)⟩⟩
               ·
                rw [if_neg c26] at H
                exact absurd H (by simp)
             ·
              rw [if_neg c24] at H
              have c24b0 : ((wrap64 (t418 + 1)) == ((x0_6.extract (t413 : Int).toNat x0_6.size).size : Int)) = false := beq_eq_false_iff_ne.mpr c24
              have c24b1 : ((wrap64 (t418 + 1)) != ((x0_6.extract (t413 : Int).toNat x0_6.size).size : Int)) = true := bne_iff_ne.mpr c24
              (first | rw [c24b0] | (simp only [i64_w, i32_w]; rw [c24b0]) | skip)
              have H' := Aside0.mk H
              clear H
              go_wp2
              repeat (go_quiet (fail); try go_wp2)
              go_meet
              case rel => exact ⟨_, (true), (by first | rfl | (simp; done) | (simp [*]; done)), H', ⟨by have := HJ1.out; have := HJ6.out; have := HJ10.out; first | omega | exact Nat.le_refl _⟩, ⟨by (with_reducible repeat first | apply b1 | apply b2 | apply b3); exact BK412.out⟩, ⟨by repeat (first | (with_reducible first | exact HB.out | apply b4 | apply b5 | apply b6 | refine below_set ?_ GE412.out) | exact HB.out)⟩⟩
            case rest =>
             clear HC23
             try clear c1
             try clear c2
             try clear p2
             try clear q2
             try clear hx2
             try clear qi2
             try clear c3
             try clear p3
             try clear q3
             try clear hx3
             try clear qi3
             try clear c4
             try clear c4b0
             try clear c4b1
             try clear c5
             try clear c5b0
             try clear c5b1
             try clear p6
             try clear q6
             try clear hx6
             try clear qi6
             try clear c8
             try clear c9
             try clear c9b0
             try clear c9b1
             try clear c12
             try clear c12b0
             try clear c13
             try clear c15
             try clear c15b0
             try clear c15b1
             try clear c16
             try clear c16b0
             try clear c16b1
             try clear c17
             try clear c17b0
             try clear c17b1
             try clear c21
             try clear c21b0
             try clear c21b1
             try clear c24
             try clear c24b0
             try clear c24b1
             try clear c25
             try clear c25b0
             try clear c26
             try clear c26b0
             try clear c26b1
             try clear p27
             try clear q27
             try clear hx27
             try clear qi27
             try clear c28
             try clear c28b0
             try clear c28b1
             try clear p29
             try clear q29
             try clear hx29
             try clear qi29
             try clear c30
             try clear c30b0
             try clear p31
             try clear q31
             try clear hx31
             try clear qi31
             try clear c32
             try clear c32b0
             try clear c32b1
             try clear p33
             try clear q33
             try clear hx33
             try clear qi33
             try clear hcz14_0
             try clear hcz14_1
             try clear hcz20_0
             try clear hcz20_1
             try clear hfz14_0
             try clear hfz14_1
             try clear hfz20_0
             try clear hfz20_1
             try clear p2
             try clear p27
             try clear p29
             try clear p31
             try clear p33
             try clear p6
             try clear q27
             try clear q29
             try clear q31
             try clear q33
             try clear q6
             obtain ⟨kq, x82_22, rfl, HA, HJ22, BK412, HB⟩ := hcut
             cases kq with
             | zero => exact absurd HA.out (by simp [assessorref46_Parse.j3])
             | succ kj22 =>
              have H := HA.out
              clear HA
              simp only [assessorref46_Parse.j3] at H
              by_cases c34 : x82_22 = true
              ·
               subst c34
               have H1 : (some (0, 0, 3)) = some (r1, r2, r3) := by rw [if_pos rfl] at H; exact H
               clear H
               have H := H1
               clear H1
               simp only [Option.some.injEq, Prod.mk.injEq] at H
               obtain ⟨rfl, rfl, rfl⟩ := H
               have hcz35_0 : wc.cell? ⟨gb412, 0, none⟩ = some (.int .i64 0) := (blk_cell BK412.out 0).trans rfl
               have hcz35_1 : wc.cell? ⟨gb412, 1, none⟩ = some (.int .i64 0) := (blk_cell BK412.out 1).trans rfl
               have hfz35_0 := blk_frozen BK412.out 0
               have hfz35_1 := blk_frozen BK412.out 1
               go_wp2
               repeat (go_quiet (fail); try go_wp2)
               refine bodyPost_ret (results_ct rfl _ _ gb412 23 #[.int .i64 0, .int .i64 0] (0, 0) _ rfl (by (with_reducible repeat first | apply b1 | apply b2 | apply b3); refine blk_put (cs := #[.int .i64 0, .int .i64 0]) ?_ 1 _ rfl; (with_reducible repeat first | apply b1 | apply b2 | apply b3); refine blk_put (cs := #[.int .i64 0, .int .i64 0]) ?_ 0 _ rfl; (with_reducible repeat first | apply b1 | apply b2 | apply b3); exact BK412.out) Tryd.underlying23 rfl (by kernel_rfl)) rfl ?_
               exact ⟨by first | rfl | (simp [errW_none, errW_some] <;> rfl) | (simp [*, errW_none, errW_some] <;> rfl), by repeat (first | (with_reducible first | exact HB.out | apply b4 | apply b5 | apply b6 | refine below_set ?_ GE412.out) | exact HB.out)⟩
              ·
               replace c34 := Bool.eq_false_iff.mpr c34
               subst c34
               have H1 : (if 0 < ((x0_6.extract (t413 : Int).toNat x0_6.size).size : Int) then (if (bt (x0_6.extract (t413 : Int).toNat x0_6.size) 0) = 47 then (if t419 = 0 then (some (0, 0, 2)) else ((assessorref46_reduce.f kj22 (wrap64 (x4_6 * t414)) t419).bind fun bt420 => (some (bt420.1, bt420.2.1, bt420.2.2)))) else (assessorref46_Parse.l0 kj22 x4_6 t414 t418 t419 1 0)) else (none)) = some (r1, r2, r3) := by rw [if_neg (show ¬ (false = true) by decide)] at H; exact H
               clear H
               have H := H1
               clear H1
               by_cases c36 : 0 < ((x0_6.extract (t413 : Int).toNat x0_6.size).size : Int)
               ·
                rw [if_pos c36] at H
                have c36b0 : decide (0 < ((x0_6.extract (t413 : Int).toNat x0_6.size).size : Int)) = true := decide_eq_true c36
                have c36b1 : decide (0 < (x0_6.extract (t413 : Int).toNat x0_6.size).size) = true := decide_eq_true (by omega)
                clear c36
                by_cases c38 : (bt (x0_6.extract (t413 : Int).toNat x0_6.size) 0) = 47
                ·
                 rw [if_pos c38] at H
                 have c38b0 : ((bt (x0_6.extract (t413 : Int).toNat x0_6.size) 0) == 47) = true := beq_iff_eq.mpr c38
                 have c38b1 : ((bt (x0_6.extract (t413 : Int).toNat x0_6.size) 0) != 47) = false := bne_eq_false_iff_eq.mpr c38
                 clear c38
                 by_cases c39 : t419 = 0
                 ·
                  rw [if_pos c39] at H
                  have c39b0 : (t419 == 0) = true := beq_iff_eq.mpr c39
                  have c39b1 : (t419 != 0) = false := bne_eq_false_iff_eq.mpr c39
                  clear c39
                  simp only [Option.some.injEq, Prod.mk.injEq] at H
                  obtain ⟨rfl, rfl, rfl⟩ := H
                  have p37 : 0 ≤ (0 : Int) := (by omega)
                  have q37 : 0 < (x0_6.extract (t413 : Int).toNat x0_6.size).size := (by have : (0 : Int) < ((x0_6.extract (t413 : Int).toNat x0_6.size).size : Int) := of_decide_eq_true (by first | (with_reducible assumption) | assumption); omega)
                  have hx37 : ∀ h : 0 < (x0_6.extract (t413 : Int).toNat x0_6.size).size, (((x0_6.extract (t413 : Int).toNat x0_6.size)[0]'h).toNat : Int) = bt (x0_6.extract (t413 : Int).toNat x0_6.size) 0 := bt_at (x0_6.extract (t413 : Int).toNat x0_6.size) 0
                  clear p37
                  have qi37 : (0 < ((x0_6.extract (t413 : Int).toNat x0_6.size).size : Int)) = True := eq_true (of_decide_eq_true (by first | (with_reducible assumption) | assumption))
                  replace q37 := eq_true q37
                  have hcz40_0 : wc.cell? ⟨gb412, 0, none⟩ = some (.int .i64 0) := (blk_cell BK412.out 0).trans rfl
                  have hcz40_1 : wc.cell? ⟨gb412, 1, none⟩ = some (.int .i64 0) := (blk_cell BK412.out 1).trans rfl
                  have hfz40_0 := blk_frozen BK412.out 0
                  have hfz40_1 := blk_frozen BK412.out 1
                  go_wp2
                  repeat (go_quiet (fail); try go_wp2)
                  refine bodyPost_ret (results_ct rfl _ _ gb412 23 #[.int .i64 0, .int .i64 0] (0, 0) _ rfl (by (with_reducible repeat first | apply b1 | apply b2 | apply b3); refine blk_put (cs := #[.int .i64 0, .int .i64 0]) ?_ 1 _ rfl; (with_reducible repeat first | apply b1 | apply b2 | apply b3); refine blk_put (cs := #[.int .i64 0, .int .i64 0]) ?_ 0 _ rfl; (with_reducible repeat first | apply b1 | apply b2 | apply b3); exact BK412.out) Tryd.underlying23 rfl (by kernel_rfl)) rfl ?_
                  exact ⟨by first | rfl | (simp [errW_none, errW_some] <;> rfl) | (simp [*, errW_none, errW_some] <;> rfl), by repeat (first | (with_reducible first | exact HB.out | apply b4 | apply b5 | apply b6 | refine below_set ?_ GE412.out) | exact HB.out)⟩
                 ·
                  rw [if_neg c39] at H
                  have c39b0 : (t419 == 0) = false := beq_eq_false_iff_ne.mpr c39
                  have c39b1 : (t419 != 0) = true := bne_iff_ne.mpr c39
                  replace H := Option.bind_eq_some_iff.mp H
                  obtain ⟨⟨t420, t421, t422⟩, A410, H⟩ := H
                  replace H : (some (t420, t421, t422)) = some (r1, r2, r3) := H
                  have A41 := Aside0.mk A410
                  clear A410
                  simp only [Option.some.injEq, Prod.mk.injEq] at H
                  obtain ⟨rfl, rfl, rfl⟩ := H
                  have p37 : 0 ≤ (0 : Int) := (by omega)
                  have q37 : 0 < (x0_6.extract (t413 : Int).toNat x0_6.size).size := (by have : (0 : Int) < ((x0_6.extract (t413 : Int).toNat x0_6.size).size : Int) := of_decide_eq_true (by first | (with_reducible assumption) | assumption); omega)
                  have hx37 : ∀ h : 0 < (x0_6.extract (t413 : Int).toNat x0_6.size).size, (((x0_6.extract (t413 : Int).toNat x0_6.size)[0]'h).toNat : Int) = bt (x0_6.extract (t413 : Int).toNat x0_6.size) 0 := bt_at (x0_6.extract (t413 : Int).toNat x0_6.size) 0
                  clear p37
                  have qi37 : (0 < ((x0_6.extract (t413 : Int).toNat x0_6.size).size : Int)) = True := eq_true (of_decide_eq_true (by first | (with_reducible assumption) | assumption))
                  replace q37 := eq_true q37
                  go_wp2_with (first | (go_at_call 43; (with_reducible refine (assessorref46_reduce.calls kj22 (wrap64 (x4_6 * t414)) t419 t420 t421 t422 _ A41.out).mono ?_); rintro e w42 ⟨rfl, hb⟩; have n0_ := Aside0.mk (blk_below (g := gb412) (o := .cells #[.int .i64 0, .int .i64 0] 23 (0, 0)) (by (with_reducible repeat first | apply b1 | apply b2 | apply b3); exact BK412.out) hb); have n1_ := Aside0.mk (below_step (by repeat (first | (with_reducible first | exact HB.out | apply b4 | apply b5 | apply b6 | refine below_set ?_ GE412.out) | exact HB.out)) hb); clear BK412; clear HB; have BK412 := n0_; have HB := n1_; clear n0_ n1_; (try clear hb); (try clear hb2); (try clear hk); (try clear hi); have hcz43_0 : w42.cell? ⟨gb412, 0, none⟩ = some (.int .i64 0) := (blk_cell BK412.out 0).trans rfl; have hcz43_1 : w42.cell? ⟨gb412, 1, none⟩ = some (.int .i64 0) := (blk_cell BK412.out 1).trans rfl; have hfz43_0 := blk_frozen BK412.out 0; have hfz43_1 := blk_frozen BK412.out 1))
                  repeat (go_quiet (first | (go_at_call 43; (with_reducible refine (assessorref46_reduce.calls kj22 (wrap64 (x4_6 * t414)) t419 t420 t421 t422 _ A41.out).mono ?_); rintro e w42 ⟨rfl, hb⟩; have n0_ := Aside0.mk (blk_below (g := gb412) (o := .cells #[.int .i64 0, .int .i64 0] 23 (0, 0)) (by (with_reducible repeat first | apply b1 | apply b2 | apply b3); exact BK412.out) hb); have n1_ := Aside0.mk (below_step (by repeat (first | (with_reducible first | exact HB.out | apply b4 | apply b5 | apply b6 | refine below_set ?_ GE412.out) | exact HB.out)) hb); clear BK412; clear HB; have BK412 := n0_; have HB := n1_; clear n0_ n1_; (try clear hb); (try clear hb2); (try clear hk); (try clear hi); have hcz43_0 : w42.cell? ⟨gb412, 0, none⟩ = some (.int .i64 0) := (blk_cell BK412.out 0).trans rfl; have hcz43_1 : w42.cell? ⟨gb412, 1, none⟩ = some (.int .i64 0) := (blk_cell BK412.out 1).trans rfl; have hfz43_0 := blk_frozen BK412.out 0; have hfz43_1 := blk_frozen BK412.out 1)); try go_wp2_with (first | (go_at_call 43; (with_reducible refine (assessorref46_reduce.calls kj22 (wrap64 (x4_6 * t414)) t419 t420 t421 t422 _ A41.out).mono ?_); rintro e w42 ⟨rfl, hb⟩; have n0_ := Aside0.mk (blk_below (g := gb412) (o := .cells #[.int .i64 0, .int .i64 0] 23 (0, 0)) (by (with_reducible repeat first | apply b1 | apply b2 | apply b3); exact BK412.out) hb); have n1_ := Aside0.mk (below_step (by repeat (first | (with_reducible first | exact HB.out | apply b4 | apply b5 | apply b6 | refine below_set ?_ GE412.out) | exact HB.out)) hb); clear BK412; clear HB; have BK412 := n0_; have HB := n1_; clear n0_ n1_; (try clear hb); (try clear hb2); (try clear hk); (try clear hi); have hcz43_0 : w42.cell? ⟨gb412, 0, none⟩ = some (.int .i64 0) := (blk_cell BK412.out 0).trans rfl; have hcz43_1 : w42.cell? ⟨gb412, 1, none⟩ = some (.int .i64 0) := (blk_cell BK412.out 1).trans rfl; have hfz43_0 := blk_frozen BK412.out 0; have hfz43_1 := blk_frozen BK412.out 1)))
                  refine bodyPost_ret (results_ct rfl _ _ gb412 23 #[.int .i64 t420, .int .i64 t421] (0, 0) _ rfl (by (with_reducible repeat first | apply b1 | apply b2 | apply b3); refine blk_put (cs := #[.int .i64 t420, .int .i64 0]) ?_ 1 _ rfl; (with_reducible repeat first | apply b1 | apply b2 | apply b3); refine blk_put (cs := #[.int .i64 0, .int .i64 0]) ?_ 0 _ rfl; (with_reducible repeat first | apply b1 | apply b2 | apply b3); exact BK412.out) Tryd.underlying23 rfl (by kernel_rfl)) rfl ?_
                  exact ⟨by first | rfl | (simp [errW_none, errW_some] <;> rfl) | (simp [*, errW_none, errW_some] <;> rfl), by repeat (first | (with_reducible first | exact HB.out | apply b4 | apply b5 | apply b6 | refine below_set ?_ GE412.out) | exact HB.out)⟩
                ·
                 rw [if_neg c38] at H
                 have c38b0 : ((bt (x0_6.extract (t413 : Int).toNat x0_6.size) 0) == 47) = false := beq_eq_false_iff_ne.mpr c38
                 have c38b1 : ((bt (x0_6.extract (t413 : Int).toNat x0_6.size) 0) != 47) = true := bne_iff_ne.mpr c38
                 have H' := Aside0.mk H
                 clear H
                 have p37 : 0 ≤ (0 : Int) := (by omega)
                 have q37 : 0 < (x0_6.extract (t413 : Int).toNat x0_6.size).size := (by have : (0 : Int) < ((x0_6.extract (t413 : Int).toNat x0_6.size).size : Int) := of_decide_eq_true (by first | (with_reducible assumption) | assumption); omega)
                 have hx37 : ∀ h : 0 < (x0_6.extract (t413 : Int).toNat x0_6.size).size, (((x0_6.extract (t413 : Int).toNat x0_6.size)[0]'h).toNat : Int) = bt (x0_6.extract (t413 : Int).toNat x0_6.size) 0 := bt_at (x0_6.extract (t413 : Int).toNat x0_6.size) 0
                 clear p37
                 have qi37 : (0 < ((x0_6.extract (t413 : Int).toNat x0_6.size).size : Int)) = True := eq_true (of_decide_eq_true (by first | (with_reducible assumption) | assumption))
                 replace q37 := eq_true q37
                 go_wp2
                 repeat (go_quiet (fail); try go_wp2)
                 go_loopg [10, 11] kj22 (fun kq v10 v11 w' => ∃ (x10_5 : Int) (x11_5 : Int), v10 = .int .i64 x10_5 ∧ v11 = .int .i64 x11_5 ∧ Aside0 (assessorref46_Parse.l0 kq x4_6 t414 t418 t419 x10_5 x11_5 = some (r1, r2, r3)) ∧ Aside0 (kq ≤ kj22) ∧ Aside0 (w'.heap[gb412]? = some (.cells #[.int .i64 0, .int .i64 0] 23 (0, 0))) ∧ Aside0 (Below w.heap.size w w'))
                 case atStart => exact ⟨(1), (0), (by first | rfl | (simp; done) | (simp [*]; done)), (by first | rfl | (simp; done) | (simp [*]; done)), H', ⟨Nat.le_refl _⟩, ⟨by (with_reducible repeat first | apply b1 | apply b2 | apply b3); exact BK412.out⟩, ⟨by repeat (first | (with_reducible first | exact HB.out | apply b4 | apply b5 | apply b6 | refine below_set ?_ GE412.out) | exact HB.out)⟩⟩
                 case round =>
                  clear H'
                  try clear c1
                  try clear c2
                  try clear p2
                  try clear q2
                  try clear hx2
                  try clear qi2
                  try clear c3
                  try clear p3
                  try clear q3
                  try clear hx3
                  try clear qi3
                  try clear c4
                  try clear c4b0
                  try clear c4b1
                  try clear c5
                  try clear c5b0
                  try clear c5b1
                  try clear p6
                  try clear q6
                  try clear hx6
                  try clear qi6
                  try clear c8
                  try clear c9
                  try clear c9b0
                  try clear c9b1
                  try clear c12
                  try clear c12b0
                  try clear c13
                  try clear c15
                  try clear c15b0
                  try clear c15b1
                  try clear c16
                  try clear c16b0
                  try clear c16b1
                  try clear c17
                  try clear c17b0
                  try clear c17b1
                  try clear c21
                  try clear c21b0
                  try clear c21b1
                  try clear c24
                  try clear c24b0
                  try clear c24b1
                  try clear c25
                  try clear c25b0
                  try clear c26
                  try clear c26b0
                  try clear c26b1
                  try clear p27
                  try clear q27
                  try clear hx27
                  try clear qi27
                  try clear c28
                  try clear c28b0
                  try clear c28b1
                  try clear p29
                  try clear q29
                  try clear hx29
                  try clear qi29
                  try clear c30
                  try clear c30b0
                  try clear p31
                  try clear q31
                  try clear hx31
                  try clear qi31
                  try clear c32
                  try clear c32b0
                  try clear c32b1
                  try clear p33
                  try clear q33
                  try clear hx33
                  try clear qi33
                  try clear c34
                  try clear c36
                  try clear c36b0
                  try clear c36b1
                  try clear p37
                  try clear q37
                  try clear hx37
                  try clear qi37
                  try clear c38
                  try clear c38b0
                  try clear c38b1
                  try clear c39
                  try clear c39b0
                  try clear c39b1
                  try clear c40
                  try clear hcz14_0
                  try clear hcz14_1
                  try clear hcz20_0
                  try clear hcz20_1
                  try clear hcz35_0
                  try clear hcz35_1
                  try clear hcz40_0
                  try clear hcz40_1
                  try clear hcz43_0
                  try clear hcz43_1
                  try clear hfz14_0
                  try clear hfz14_1
                  try clear hfz20_0
                  try clear hfz20_1
                  try clear hfz35_0
                  try clear hfz35_1
                  try clear hfz40_0
                  try clear hfz40_1
                  try clear hfz43_0
                  try clear hfz43_1
                  try clear p2
                  try clear p27
                  try clear p29
                  try clear p3
                  try clear p31
                  try clear p33
                  try clear p37
                  try clear p6
                  try clear q2
                  try clear q27
                  try clear q29
                  try clear q3
                  try clear q31
                  try clear q33
                  try clear q37
                  try clear q6
                  obtain ⟨x10_5, x11_5, rfl, rfl, HA, HK5, BK412, HB⟩ := hrel
                  cases gk with
                  | zero => exact absurd HA.out (by simp [assessorref46_Parse.l0])
                  | succ k5 =>
                   have H := HA.out
                   clear HA
                   simp only [assessorref46_Parse.l0] at H
                   by_cases c44 : x11_5 < t418
                   ·
                    rw [if_pos c44] at H
                    have c44b0 : decide (x11_5 < t418) = true := decide_eq_true c44
                    clear c44
                    have H' := Aside0.mk H
                    clear H
                    go_wp2
                    repeat (go_quiet (fail); try go_wp2)
                    go_roundg k5
                    case measure => have := HJ1.out; have := HJ6.out; have := HJ10.out; have := HJ22.out; have := HK5.out; omega
                    case rel => exact ⟨(wrap64 (10 * x10_5)), (wrap64 (x11_5 + 1)), (by first | rfl | (simp; done) | (simp [*]; done)), (by first | rfl | (simp; done) | (simp [*]; done)), H', ⟨by have := HJ1.out; have := HJ6.out; have := HJ10.out; have := HJ22.out; have := HK5.out; omega⟩, ⟨by (with_reducible repeat first | apply b1 | apply b2 | apply b3); exact BK412.out⟩, ⟨by repeat (first | (with_reducible first | exact HB.out | apply b4 | apply b5 | apply b6 | refine below_set ?_ GE412.out) | exact HB.out)⟩⟩
                   ·
                    rw [if_neg c44] at H
                    have c44b0 : decide (x11_5 < t418) = false := decide_eq_false c44
                    clear c44
                    replace H := Option.bind_eq_some_iff.mp H
                    obtain ⟨⟨t423, t424, t425⟩, A450, H⟩ := H
                    replace H : (some (t423, t424, t425)) = some (r1, r2, r3) := H
                    have A45 := Aside0.mk A450
                    clear A450
                    simp only [Option.some.injEq, Prod.mk.injEq] at H
                    obtain ⟨rfl, rfl, rfl⟩ := H
                    go_wp2_with (first | (go_at_call 43; (with_reducible refine (assessorref46_reduce.calls k5 (wrap64 (x4_6 * (wrap64 ((wrap64 (t414 * x10_5)) + t419)))) x10_5 t423 t424 t425 _ A45.out).mono ?_); rintro e w46 ⟨rfl, hb⟩; have n0_ := Aside0.mk (blk_below (g := gb412) (o := .cells #[.int .i64 0, .int .i64 0] 23 (0, 0)) (by (with_reducible repeat first | apply b1 | apply b2 | apply b3); exact BK412.out) hb); have n1_ := Aside0.mk (below_step (by repeat (first | (with_reducible first | exact HB.out | apply b4 | apply b5 | apply b6 | refine below_set ?_ GE412.out) | exact HB.out)) hb); clear BK412; clear HB; have BK412 := n0_; have HB := n1_; clear n0_ n1_; (try clear hb); (try clear hb2); (try clear hk); (try clear hi); have hcz47_0 : w46.cell? ⟨gb412, 0, none⟩ = some (.int .i64 0) := (blk_cell BK412.out 0).trans rfl; have hcz47_1 : w46.cell? ⟨gb412, 1, none⟩ = some (.int .i64 0) := (blk_cell BK412.out 1).trans rfl; have hfz47_0 := blk_frozen BK412.out 0; have hfz47_1 := blk_frozen BK412.out 1))
                    repeat (go_quiet (first | (go_at_call 43; (with_reducible refine (assessorref46_reduce.calls k5 (wrap64 (x4_6 * (wrap64 ((wrap64 (t414 * x10_5)) + t419)))) x10_5 t423 t424 t425 _ A45.out).mono ?_); rintro e w46 ⟨rfl, hb⟩; have n0_ := Aside0.mk (blk_below (g := gb412) (o := .cells #[.int .i64 0, .int .i64 0] 23 (0, 0)) (by (with_reducible repeat first | apply b1 | apply b2 | apply b3); exact BK412.out) hb); have n1_ := Aside0.mk (below_step (by repeat (first | (with_reducible first | exact HB.out | apply b4 | apply b5 | apply b6 | refine below_set ?_ GE412.out) | exact HB.out)) hb); clear BK412; clear HB; have BK412 := n0_; have HB := n1_; clear n0_ n1_; (try clear hb); (try clear hb2); (try clear hk); (try clear hi); have hcz47_0 : w46.cell? ⟨gb412, 0, none⟩ = some (.int .i64 0) := (blk_cell BK412.out 0).trans rfl; have hcz47_1 : w46.cell? ⟨gb412, 1, none⟩ = some (.int .i64 0) := (blk_cell BK412.out 1).trans rfl; have hfz47_0 := blk_frozen BK412.out 0; have hfz47_1 := blk_frozen BK412.out 1)); try go_wp2_with (first | (go_at_call 43; (with_reducible refine (assessorref46_reduce.calls k5 (wrap64 (x4_6 * (wrap64 ((wrap64 (t414 * x10_5)) + t419)))) x10_5 t423 t424 t425 _ A45.out).mono ?_); rintro e w46 ⟨rfl, hb⟩; have n0_ := Aside0.mk (blk_below (g := gb412) (o := .cells #[.int .i64 0, .int .i64 0] 23 (0, 0)) (by (with_reducible repeat first | apply b1 | apply b2 | apply b3); exact BK412.out) hb); have n1_ := Aside0.mk (below_step (by repeat (first | (with_reducible first | exact HB.out | apply b4 | apply b5 | apply b6 | refine below_set ?_ GE412.out) | exact HB.out)) hb); clear BK412; clear HB; have BK412 := n0_; have HB := n1_; clear n0_ n1_; (try clear hb); (try clear hb2); (try clear hk); (try clear hi); have hcz47_0 : w46.cell? ⟨gb412, 0, none⟩ = some (.int .i64 0) := (blk_cell BK412.out 0).trans rfl; have hcz47_1 : w46.cell? ⟨gb412, 1, none⟩ = some (.int .i64 0) := (blk_cell BK412.out 1).trans rfl; have hfz47_0 := blk_frozen BK412.out 0; have hfz47_1 := blk_frozen BK412.out 1)))
                    refine bodyPost_ret (results_ct rfl _ _ gb412 23 #[.int .i64 t423, .int .i64 t424] (0, 0) _ rfl (by (with_reducible repeat first | apply b1 | apply b2 | apply b3); refine blk_put (cs := #[.int .i64 t423, .int .i64 0]) ?_ 1 _ rfl; (with_reducible repeat first | apply b1 | apply b2 | apply b3); refine blk_put (cs := #[.int .i64 0, .int .i64 0]) ?_ 0 _ rfl; (with_reducible repeat first | apply b1 | apply b2 | apply b3); exact BK412.out) Tryd.underlying23 rfl (by kernel_rfl)) rfl ?_
                    exact ⟨by first | rfl | (simp [errW_none, errW_some] <;> rfl) | (simp [*, errW_none, errW_some] <;> rfl), by repeat (first | (with_reducible first | exact HB.out | apply b4 | apply b5 | apply b6 | refine below_set ?_ GE412.out) | exact HB.out)⟩
               ·
                rw [if_neg c36] at H
                exact absurd H (by simp)
           ·
            rw [if_neg c21] at H
            exact absurd H (by simp)
         ·
          rw [if_neg c16] at H
          exact absurd H (by simp)
        ·
         rw [if_neg c15] at H
         exact absurd H (by simp)

end Go.Proofs.YtkfibjmjamdigaaDoor.Q

namespace Go.Proofs.YtkfibjmjamdigaaDoor.Q
open Go.RowKit Go.Proofs.YtkfibjmjamdigaaDoorW.PrintWords Go.Proofs.YtkfibjmjamdigaaDoorW.PrintLast Go.Proofs.YtkfibjmjamdigaaDoorW.PrintMore
attribute [local go_sem] max2_int min2_int max_two min_two max_three min_three max_four min_four   -- for this text's walks alone
set_option linter.unusedVariables false
set_option linter.unusedSimpArgs false


def assessorref46_Valid.f (k : Nat) (a0_0 : Int) (a0_1 : Int) : Option (Bool) := if a0_1 ≥ 1 then (if a0_1 ≤ 1000000 then (if a0_0 ≥ (-1000000000) then (if a0_0 ≤ 1000000000 then ((assessorref46_gcd.f k a0_0 a0_1).bind fun t143 => (some (t143 == 1))) else (some false)) else (some false)) else (some false)) else (some false)
theorem assessorref46_Valid.mono : ∀ a0 a1 k, LeO (assessorref46_Valid.f k a0 a1) (assessorref46_Valid.f (k + 1) a0 a1) := by
 intro a0 a1 k
 unfold assessorref46_Valid.f
 repeat' first
   | (with_reducible exact assessorref46_gcd.mono _ _ _)
   | (with_reducible exact LeO.refl _)
   | (with_reducible exact LeO.none _)
   | (with_reducible refine LeO.ite ?_ ?_)
   | (with_reducible refine LeO.bind ?_ (fun _ => ?_))
   | exact assessorref46_gcd.mono _ _ _
   | exact LeO.none _
   | refine LeO.ite ?_ ?_
   | refine LeO.bind ?_ (fun _ => ?_)
set_option maxHeartbeats 8000000 in
set_option maxRecDepth 100000 in
theorem assessorref46_Valid.calls (k : Nat) (a0_0 : Int) (a0_1 : Int) (r : Bool) (w : World) (h : assessorref46_Valid.f k a0_0 a0_1 = some r) :
  Calls Tryd.prog 16 #[.agg #[.int .i64 a0_0, .int .i64 a0_1]] w fun e w' => e = .returned (.bool r) ∧ Below w.heap.size w w' := by
 have hu23 := Tryd.underlying23
 have HB := Aside0.mk (Below.refl w.heap.size w)
 have H : (if a0_1 ≥ 1 then (if a0_1 ≤ 1000000 then (if a0_0 ≥ (-1000000000) then (if a0_0 ≤ 1000000000 then ((assessorref46_gcd.f k a0_0 a0_1).bind fun t143 => (some (t143 == 1))) else (some false)) else (some false)) else (some false)) else (some false)) = some r := h
 clear h
 by_cases c2 : a0_1 ≥ 1
 ·
  rw [if_pos c2] at H
  have c2b0 : decide (1 ≤ a0_1) = true := decide_eq_true c2
  clear c2
  by_cases c3 : a0_1 ≤ 1000000
  ·
   rw [if_pos c3] at H
   have c3b0 : decide (a0_1 ≤ 1000000) = true := decide_eq_true c3
   clear c3
   by_cases c4 : a0_0 ≥ (-1000000000)
   ·
    rw [if_pos c4] at H
    have c4b0 : decide ((-1000000000) ≤ a0_0) = true := decide_eq_true c4
    clear c4
    by_cases c5 : a0_0 ≤ 1000000000
    ·
     rw [if_pos c5] at H
     have c5b0 : decide (a0_0 ≤ 1000000000) = true := decide_eq_true c5
     clear c5
     replace H := Option.bind_eq_some_iff.mp H
     obtain ⟨t143, A60, H⟩ := H
     replace H : (some (t143 == 1)) = some r := H
     have A6 := Aside0.mk A60
     clear A60
     obtain rfl := Option.some.inj H
     simp only [Option.some.injEq, Prod.mk.injEq] at H
     obtain ⟨rfl⟩ := H
     go_enter Tryd.func16, Tryd.ntmps16
     go_wp2_with (first | ((with_reducible refine gate_dst (N := 1) rfl ?_); refine box_event ?hg (N := 1) ?hd (cs := #[.int .i64 a0_0, .int .i64 a0_1]) (t := 23) ?hr ?_; (case hd => rfl); (case hg => rfl); (case hr => first | (go_simp; done) | (go_simp; rfl)); intro gb142 hg w7 hbox hb; have n0_ := Aside0.mk (below_step (by repeat (first | (with_reducible first | exact HB.out | apply b4 | apply b5 | apply b6) | exact HB.out)) hb); have n1_ := Aside0.mk (hbox); have n2_ := Aside0.mk ((by rw [hg]; exact (below_size (by repeat (first | (with_reducible first | exact HB.out | apply b4 | apply b5 | apply b6) | exact HB.out))) : w.heap.size ≤ gb142)); have n3_ := Aside0.mk ((by rw [hg]; exact (below_size (by repeat (first | (with_reducible first | exact HB.out | apply b4 | apply b5 | apply b6) | exact HB.out))) : w.heap.size ≤ gb142)); clear HB; have HB := n0_; have BK142 := n1_; have GW142 := n2_; have GE142 := n3_; clear n0_ n1_ n2_ n3_; clear hb hbox hg; have hcz8_0 : w7.cell? ⟨gb142, 0, none⟩ = some (.int .i64 a0_0) := (blk_cell BK142.out 0).trans rfl; have hcz8_1 : w7.cell? ⟨gb142, 1, none⟩ = some (.int .i64 a0_1) := (blk_cell BK142.out 1).trans rfl; have hfz8_0 := blk_frozen BK142.out 0; have hfz8_1 := blk_frozen BK142.out 1) | (go_at_call 50; (with_reducible refine (assessorref46_gcd.calls k a0_0 a0_1 t143 _ A6.out).mono ?_); rintro e w' ⟨rfl, ⟨nd, rfl⟩⟩))
     go_ret
     exact ⟨by first | rfl | (simp [errW_none, errW_some] <;> rfl) | (simp [*, errW_none, errW_some] <;> rfl), by repeat (first | (with_reducible first | exact HB.out | apply b4 | apply b5 | apply b6 | refine below_set ?_ GE142.out) | exact HB.out)⟩
    ·
     rw [if_neg c5] at H
     have c5b0 : decide (a0_0 ≤ 1000000000) = false := decide_eq_false c5
     clear c5
     obtain rfl := Option.some.inj H
     simp only [Option.some.injEq, Prod.mk.injEq] at H
     obtain ⟨rfl⟩ := H
     go_enter Tryd.func16, Tryd.ntmps16
     go_wp2_with (first | ((with_reducible refine gate_dst (N := 1) rfl ?_); refine box_event ?hg (N := 1) ?hd (cs := #[.int .i64 a0_0, .int .i64 a0_1]) (t := 23) ?hr ?_; (case hd => rfl); (case hg => rfl); (case hr => first | (go_simp; done) | (go_simp; rfl)); intro gb142 hg w9 hbox hb; have n0_ := Aside0.mk (below_step (by repeat (first | (with_reducible first | exact HB.out | apply b4 | apply b5 | apply b6) | exact HB.out)) hb); have n1_ := Aside0.mk (hbox); have n2_ := Aside0.mk ((by rw [hg]; exact (below_size (by repeat (first | (with_reducible first | exact HB.out | apply b4 | apply b5 | apply b6) | exact HB.out))) : w.heap.size ≤ gb142)); have n3_ := Aside0.mk ((by rw [hg]; exact (below_size (by repeat (first | (with_reducible first | exact HB.out | apply b4 | apply b5 | apply b6) | exact HB.out))) : w.heap.size ≤ gb142)); clear HB; have HB := n0_; have BK142 := n1_; have GW142 := n2_; have GE142 := n3_; clear n0_ n1_ n2_ n3_; clear hb hbox hg; have hcz10_0 : w9.cell? ⟨gb142, 0, none⟩ = some (.int .i64 a0_0) := (blk_cell BK142.out 0).trans rfl; have hcz10_1 : w9.cell? ⟨gb142, 1, none⟩ = some (.int .i64 a0_1) := (blk_cell BK142.out 1).trans rfl; have hfz10_0 := blk_frozen BK142.out 0; have hfz10_1 := blk_frozen BK142.out 1))
     go_ret
     exact ⟨by first | rfl | (simp [errW_none, errW_some] <;> rfl) | (simp [*, errW_none, errW_some] <;> rfl), by repeat (first | (with_reducible first | exact HB.out | apply b4 | apply b5 | apply b6 | refine below_set ?_ GE142.out) | exact HB.out)⟩
   ·
    rw [if_neg c4] at H
    have c4b0 : decide ((-1000000000) ≤ a0_0) = false := decide_eq_false c4
    clear c4
    obtain rfl := Option.some.inj H
    simp only [Option.some.injEq, Prod.mk.injEq] at H
    obtain ⟨rfl⟩ := H
    go_enter Tryd.func16, Tryd.ntmps16
    go_wp2_with (first | ((with_reducible refine gate_dst (N := 1) rfl ?_); refine box_event ?hg (N := 1) ?hd (cs := #[.int .i64 a0_0, .int .i64 a0_1]) (t := 23) ?hr ?_; (case hd => rfl); (case hg => rfl); (case hr => first | (go_simp; done) | (go_simp; rfl)); intro gb142 hg w11 hbox hb; have n0_ := Aside0.mk (below_step (by repeat (first | (with_reducible first | exact HB.out | apply b4 | apply b5 | apply b6) | exact HB.out)) hb); have n1_ := Aside0.mk (hbox); have n2_ := Aside0.mk ((by rw [hg]; exact (below_size (by repeat (first | (with_reducible first | exact HB.out | apply b4 | apply b5 | apply b6) | exact HB.out))) : w.heap.size ≤ gb142)); have n3_ := Aside0.mk ((by rw [hg]; exact (below_size (by repeat (first | (with_reducible first | exact HB.out | apply b4 | apply b5 | apply b6) | exact HB.out))) : w.heap.size ≤ gb142)); clear HB; have HB := n0_; have BK142 := n1_; have GW142 := n2_; have GE142 := n3_; clear n0_ n1_ n2_ n3_; clear hb hbox hg; have hcz12_0 : w11.cell? ⟨gb142, 0, none⟩ = some (.int .i64 a0_0) := (blk_cell BK142.out 0).trans rfl; have hcz12_1 : w11.cell? ⟨gb142, 1, none⟩ = some (.int .i64 a0_1) := (blk_cell BK142.out 1).trans rfl; have hfz12_0 := blk_frozen BK142.out 0; have hfz12_1 := blk_frozen BK142.out 1))
    go_ret
    exact ⟨by first | rfl | (simp [errW_none, errW_some] <;> rfl) | (simp [*, errW_none, errW_some] <;> rfl), by repeat (first | (with_reducible first | exact HB.out | apply b4 | apply b5 | apply b6 | refine below_set ?_ GE142.out) | exact HB.out)⟩
  ·
   rw [if_neg c3] at H
   have c3b0 : decide (a0_1 ≤ 1000000) = false := decide_eq_false c3
   clear c3
   obtain rfl := Option.some.inj H
   simp only [Option.some.injEq, Prod.mk.injEq] at H
   obtain ⟨rfl⟩ := H
   go_enter Tryd.func16, Tryd.ntmps16
   go_wp2_with (first | ((with_reducible refine gate_dst (N := 1) rfl ?_); refine box_event ?hg (N := 1) ?hd (cs := #[.int .i64 a0_0, .int .i64 a0_1]) (t := 23) ?hr ?_; (case hd => rfl); (case hg => rfl); (case hr => first | (go_simp; done) | (go_simp; rfl)); intro gb142 hg w13 hbox hb; have n0_ := Aside0.mk (below_step (by repeat (first | (with_reducible first | exact HB.out | apply b4 | apply b5 | apply b6) | exact HB.out)) hb); have n1_ := Aside0.mk (hbox); have n2_ := Aside0.mk ((by rw [hg]; exact (below_size (by repeat (first | (with_reducible first | exact HB.out | apply b4 | apply b5 | apply b6) | exact HB.out))) : w.heap.size ≤ gb142)); have n3_ := Aside0.mk ((by rw [hg]; exact (below_size (by repeat (first | (with_reducible first | exact HB.out | apply b4 | apply b5 | apply b6) | exact HB.out))) : w.heap.size ≤ gb142)); clear HB; have HB := n0_; have BK142 := n1_; have GW142 := n2_; have GE142 := n3_; clear n0_ n1_ n2_ n3_; clear hb hbox hg; have hcz14_0 : w13.cell? ⟨gb142, 0, none⟩ = some (.int .i64 a0_0) := (blk_cell BK142.out 0).trans rfl; have hcz14_1 : w13.cell? ⟨gb142, 1, none⟩ = some (.int .i64 a0_1) := (blk_cell BK142.out 1).trans rfl; have hfz14_0 := blk_frozen BK142.out 0; have hfz14_1 := blk_frozen BK142.out 1))
   go_ret
   exact ⟨by first | rfl | (simp [errW_none, errW_some] <;> rfl) | (simp [*, errW_none, errW_some] <;> rfl), by repeat (first | (with_reducible first | exact HB.out | apply b4 | apply b5 | apply b6 | refine below_set ?_ GE142.out) | exact HB.out)⟩
 ·
  rw [if_neg c2] at H
  have c2b0 : decide (1 ≤ a0_1) = false := decide_eq_false c2
  clear c2
  obtain rfl := Option.some.inj H
  simp only [Option.some.injEq, Prod.mk.injEq] at H
  obtain ⟨rfl⟩ := H
  go_enter Tryd.func16, Tryd.ntmps16
  go_wp2_with (first | ((with_reducible refine gate_dst (N := 1) rfl ?_); refine box_event ?hg (N := 1) ?hd (cs := #[.int .i64 a0_0, .int .i64 a0_1]) (t := 23) ?hr ?_; (case hd => rfl); (case hg => rfl); (case hr => first | (go_simp; done) | (go_simp; rfl)); intro gb142 hg w15 hbox hb; have n0_ := Aside0.mk (below_step (by repeat (first | (with_reducible first | exact HB.out | apply b4 | apply b5 | apply b6) | exact HB.out)) hb); have n1_ := Aside0.mk (hbox); have n2_ := Aside0.mk ((by rw [hg]; exact (below_size (by repeat (first | (with_reducible first | exact HB.out | apply b4 | apply b5 | apply b6) | exact HB.out))) : w.heap.size ≤ gb142)); have n3_ := Aside0.mk ((by rw [hg]; exact (below_size (by repeat (first | (with_reducible first | exact HB.out | apply b4 | apply b5 | apply b6) | exact HB.out))) : w.heap.size ≤ gb142)); clear HB; have HB := n0_; have BK142 := n1_; have GW142 := n2_; have GE142 := n3_; clear n0_ n1_ n2_ n3_; clear hb hbox hg; have hcz16_0 : w15.cell? ⟨gb142, 0, none⟩ = some (.int .i64 a0_0) := (blk_cell BK142.out 0).trans rfl; have hcz16_1 : w15.cell? ⟨gb142, 1, none⟩ = some (.int .i64 a0_1) := (blk_cell BK142.out 1).trans rfl; have hfz16_0 := blk_frozen BK142.out 0; have hfz16_1 := blk_frozen BK142.out 1))
  go_ret
  exact ⟨by first | rfl | (simp [errW_none, errW_some] <;> rfl) | (simp [*, errW_none, errW_some] <;> rfl), by repeat (first | (with_reducible first | exact HB.out | apply b4 | apply b5 | apply b6 | refine below_set ?_ GE142.out) | exact HB.out)⟩

end Go.Proofs.YtkfibjmjamdigaaDoor.Q

namespace Go.Proofs.YtkfibjmjamdigaaDoor.Q
open Go.RowKit Go.Proofs.YtkfibjmjamdigaaDoorW.PrintWords Go.Proofs.YtkfibjmjamdigaaDoorW.PrintLast Go.Proofs.YtkfibjmjamdigaaDoorW.PrintMore
attribute [local go_sem] max2_int min2_int max_two min_two max_three min_three max_four min_four   -- for this text's walks alone
set_option linter.unusedVariables false
set_option linter.unusedSimpArgs false


def assessorref46_Add.f (k : Nat) (a0_0 : Int) (a0_1 : Int) (a1_0 : Int) (a1_1 : Int) : Option (Int × Int × Int) := (assessorref46_Valid.f k a0_0 a0_1).bind fun t300 => (if t300 = true then ((assessorref46_Valid.f k a1_0 a1_1).bind fun t301 => (if t301 = true then ((assessorref46_reduce.f k (wrap64 ((wrap64 (a0_0 * a1_1)) + (wrap64 (a1_0 * a0_1)))) (wrap64 (a0_1 * a1_1))).bind fun bt302 => (some (bt302.1, bt302.2.1, bt302.2.2))) else (some (0, 0, 1)))) else (some (0, 0, 1)))
theorem assessorref46_Add.mono : ∀ a0 a1 a2 a3 k, LeO (assessorref46_Add.f k a0 a1 a2 a3) (assessorref46_Add.f (k + 1) a0 a1 a2 a3) := by
 intro a0 a1 a2 a3 k
 unfold assessorref46_Add.f
 repeat' first
   | (with_reducible exact assessorref46_Valid.mono _ _ _)
   | (with_reducible exact assessorref46_reduce.mono _ _ _)
   | (with_reducible exact LeO.refl _)
   | (with_reducible exact LeO.none _)
   | (with_reducible refine LeO.ite ?_ ?_)
   | (with_reducible refine LeO.bind ?_ (fun _ => ?_))
   | exact assessorref46_Valid.mono _ _ _
   | exact assessorref46_reduce.mono _ _ _
   | exact LeO.none _
   | refine LeO.ite ?_ ?_
   | refine LeO.bind ?_ (fun _ => ?_)
set_option maxHeartbeats 8000000 in
set_option maxRecDepth 100000 in
theorem assessorref46_Add.calls (k : Nat) (a0_0 : Int) (a0_1 : Int) (a1_0 : Int) (a1_1 : Int) (r1 : Int) (r2 : Int) (r3 : Int) (w : World) (h : assessorref46_Add.f k a0_0 a0_1 a1_0 a1_1 = some (r1, r2, r3)) :
  Calls Tryd.prog 28 #[.agg #[.int .i64 a0_0, .int .i64 a0_1], .agg #[.int .i64 a1_0, .int .i64 a1_1]] w fun e w' => e = .returned (.tuple #[.agg #[.int .i64 r1, .int .i64 r2], .int .i64 r3]) ∧ Below w.heap.size w w' := by
 have hu23 := Tryd.underlying23
 have HB := Aside0.mk (Below.refl w.heap.size w)
 have H : ((assessorref46_Valid.f k a0_0 a0_1).bind fun t300 => (if t300 = true then ((assessorref46_Valid.f k a1_0 a1_1).bind fun t301 => (if t301 = true then ((assessorref46_reduce.f k (wrap64 ((wrap64 (a0_0 * a1_1)) + (wrap64 (a1_0 * a0_1)))) (wrap64 (a0_1 * a1_1))).bind fun bt302 => (some (bt302.1, bt302.2.1, bt302.2.2))) else (some (0, 0, 1)))) else (some (0, 0, 1)))) = some (r1, r2, r3) := h
 clear h
 replace H := Option.bind_eq_some_iff.mp H
 obtain ⟨t300, A30, H⟩ := H
 replace H : (if t300 = true then ((assessorref46_Valid.f k a1_0 a1_1).bind fun t301 => (if t301 = true then ((assessorref46_reduce.f k (wrap64 ((wrap64 (a0_0 * a1_1)) + (wrap64 (a1_0 * a0_1)))) (wrap64 (a0_1 * a1_1))).bind fun bt302 => (some (bt302.1, bt302.2.1, bt302.2.2))) else (some (0, 0, 1)))) else (some (0, 0, 1))) = some (r1, r2, r3) := H
 have A3 := Aside0.mk A30
 clear A30
 by_cases c4 : t300 = true
 ·
  subst c4
  have H1 : ((assessorref46_Valid.f k a1_0 a1_1).bind fun t301 => (if t301 = true then ((assessorref46_reduce.f k (wrap64 ((wrap64 (a0_0 * a1_1)) + (wrap64 (a1_0 * a0_1)))) (wrap64 (a0_1 * a1_1))).bind fun bt302 => (some (bt302.1, bt302.2.1, bt302.2.2))) else (some (0, 0, 1)))) = some (r1, r2, r3) := by rw [if_pos rfl] at H; exact H
  clear H
  have H := H1
  clear H1
  replace H := Option.bind_eq_some_iff.mp H
  obtain ⟨t301, A50, H⟩ := H
  replace H : (if t301 = true then ((assessorref46_reduce.f k (wrap64 ((wrap64 (a0_0 * a1_1)) + (wrap64 (a1_0 * a0_1)))) (wrap64 (a0_1 * a1_1))).bind fun bt302 => (some (bt302.1, bt302.2.1, bt302.2.2))) else (some (0, 0, 1))) = some (r1, r2, r3) := H
  have A5 := Aside0.mk A50
  clear A50
  by_cases c6 : t301 = true
  ·
   subst c6
   have H1 : ((assessorref46_reduce.f k (wrap64 ((wrap64 (a0_0 * a1_1)) + (wrap64 (a1_0 * a0_1)))) (wrap64 (a0_1 * a1_1))).bind fun bt302 => (some (bt302.1, bt302.2.1, bt302.2.2))) = some (r1, r2, r3) := by rw [if_pos rfl] at H; exact H
   clear H
   have H := H1
   clear H1
   replace H := Option.bind_eq_some_iff.mp H
   obtain ⟨⟨t302, t303, t304⟩, A70, H⟩ := H
   replace H : (some (t302, t303, t304)) = some (r1, r2, r3) := H
   have A7 := Aside0.mk A70
   clear A70
   simp only [Option.some.injEq, Prod.mk.injEq] at H
   obtain ⟨rfl, rfl, rfl⟩ := H
   go_enter Tryd.func28, Tryd.ntmps28
   go_wp2_with (first | ((with_reducible refine gate_dst (N := 2) rfl ?_); refine box_event ?hg (N := 2) ?hd (cs := #[.int .i64 a0_0, .int .i64 a0_1]) (t := 23) ?hr ?_; (case hd => rfl); (case hg => rfl); (case hr => first | (go_simp; done) | (go_simp; rfl)); intro gb297 hg w8 hbox hb; have n0_ := Aside0.mk (below_step (by repeat (first | (with_reducible first | exact HB.out | apply b4 | apply b5 | apply b6) | exact HB.out)) hb); have n1_ := Aside0.mk (hbox); have n2_ := Aside0.mk ((by rw [hg]; exact (below_size (by repeat (first | (with_reducible first | exact HB.out | apply b4 | apply b5 | apply b6) | exact HB.out))) : w.heap.size ≤ gb297)); have n3_ := Aside0.mk ((by rw [hg]; exact (below_size (by repeat (first | (with_reducible first | exact HB.out | apply b4 | apply b5 | apply b6) | exact HB.out))) : w.heap.size ≤ gb297)); clear HB; have HB := n0_; have BK297 := n1_; have GW297 := n2_; have GE297 := n3_; clear n0_ n1_ n2_ n3_; clear hb hbox hg) | ((with_reducible refine gate_dst (N := 3) rfl ?_); refine box_event ?hg (N := 3) ?hd (cs := #[.int .i64 a1_0, .int .i64 a1_1]) (t := 23) ?hr ?_; (case hd => rfl); (case hg => rfl); (case hr => first | (go_simp; done) | (go_simp; rfl)); intro gb298 hg w9 hbox hb; have n0_ := Aside0.mk (blk_below (g := gb297) (o := .cells #[.int .i64 a0_0, .int .i64 a0_1] 23 (0, 0)) (by (with_reducible repeat first | apply b1 | apply b2 | apply b3); exact BK297.out) hb); have n1_ := Aside0.mk (below_step (by repeat (first | (with_reducible first | exact HB.out | apply b4 | apply b5 | apply b6 | refine below_set ?_ GE297.out) | exact HB.out)) hb); have n2_ := Aside0.mk (hbox); have n3_ := Aside0.mk ((by rw [hg]; exact (below_size (by repeat (first | (with_reducible first | exact HB.out | apply b4 | apply b5 | apply b6 | refine below_set ?_ GE297.out) | exact HB.out))) : w.heap.size ≤ gb298)); have n4_ := Aside0.mk ((by rw [hg]; exact (below_size (by repeat (first | (with_reducible first | exact HB.out | apply b4 | apply b5 | apply b6 | refine below_set ?_ GE297.out) | exact HB.out))) : w.heap.size ≤ gb298)); have n5_ := Aside0.mk ((by rw [hg]; exact Nat.ne_of_lt (blk_lt (g := gb297) (o := .cells #[.int .i64 a0_0, .int .i64 a0_1] 23 (0, 0)) (by (with_reducible repeat first | apply b1 | apply b2 | apply b3); exact BK297.out)) : gb297 ≠ gb298)); have n6_ := Aside0.mk ((by rw [hg]; exact Nat.ne_of_gt (blk_lt (g := gb297) (o := .cells #[.int .i64 a0_0, .int .i64 a0_1] 23 (0, 0)) (by (with_reducible repeat first | apply b1 | apply b2 | apply b3); exact BK297.out)) : gb298 ≠ gb297)); clear BK297; clear HB; have BK297 := n0_; have HB := n1_; have BK298 := n2_; have GW298 := n3_; have GE298 := n4_; have NB297_298 := n5_; have NB298_297 := n6_; clear n0_ n1_ n2_ n3_ n4_ n5_ n6_; clear hb hbox hg) | ((with_reducible refine gate_dst (N := 4) rfl ?_); refine box_event ?hg (N := 4) ?hd (cs := #[.int .i64 0, .int .i64 0]) (t := 23) ?hr ?_; (case hd => rfl); (case hg => rfl); (case hr => first | (go_simp; done) | (go_simp; rfl)); intro gb299 hg w10 hbox hb; have n0_ := Aside0.mk (blk_below (g := gb297) (o := .cells #[.int .i64 a0_0, .int .i64 a0_1] 23 (0, 0)) (by (with_reducible repeat first | apply b1 | apply b2 | apply b3); exact BK297.out) hb); have n1_ := Aside0.mk (blk_below (g := gb298) (o := .cells #[.int .i64 a1_0, .int .i64 a1_1] 23 (0, 0)) (by (with_reducible repeat first | apply b1 | apply b2 | apply b3); exact BK298.out) hb); have n2_ := Aside0.mk (below_step (by repeat (first | (with_reducible first | exact HB.out | apply b4 | apply b5 | apply b6 | refine below_set ?_ GE297.out | refine below_set ?_ GE298.out) | exact HB.out)) hb); have n3_ := Aside0.mk (hbox); have n4_ := Aside0.mk ((by rw [hg]; exact (below_size (by repeat (first | (with_reducible first | exact HB.out | apply b4 | apply b5 | apply b6 | refine below_set ?_ GE297.out | refine below_set ?_ GE298.out) | exact HB.out))) : w.heap.size ≤ gb299)); have n5_ := Aside0.mk ((by rw [hg]; exact (below_size (by repeat (first | (with_reducible first | exact HB.out | apply b4 | apply b5 | apply b6 | refine below_set ?_ GE297.out | refine below_set ?_ GE298.out) | exact HB.out))) : w.heap.size ≤ gb299)); have n6_ := Aside0.mk ((by rw [hg]; exact Nat.ne_of_lt (blk_lt (g := gb297) (o := .cells #[.int .i64 a0_0, .int .i64 a0_1] 23 (0, 0)) (by (with_reducible repeat first | apply b1 | apply b2 | apply b3); exact BK297.out)) : gb297 ≠ gb299)); have n7_ := Aside0.mk ((by rw [hg]; exact Nat.ne_of_gt (blk_lt (g := gb297) (o := .cells #[.int .i64 a0_0, .int .i64 a0_1] 23 (0, 0)) (by (with_reducible repeat first | apply b1 | apply b2 | apply b3); exact BK297.out)) : gb299 ≠ gb297)); have n8_ := Aside0.mk ((by rw [hg]; exact Nat.ne_of_lt (blk_lt (g := gb298) (o := .cells #[.int .i64 a1_0, .int .i64 a1_1] 23 (0, 0)) (by (with_reducible repeat first | apply b1 | apply b2 | apply b3); exact BK298.out)) : gb298 ≠ gb299)); have n9_ := Aside0.mk ((by rw [hg]; exact Nat.ne_of_gt (blk_lt (g := gb298) (o := .cells #[.int .i64 a1_0, .int .i64 a1_1] 23 (0, 0)) (by (with_reducible repeat first | apply b1 | apply b2 | apply b3); exact BK298.out)) : gb299 ≠ gb298)); clear BK297; clear BK298; clear HB; have BK297 := n0_; have BK298 := n1_; have HB := n2_; have BK299 := n3_; have GW299 := n4_; have GE299 := n5_; have NB297_299 := n6_; have NB299_297 := n7_; have NB298_299 := n8_; have NB299_298 := n9_; clear n0_ n1_ n2_ n3_ n4_ n5_ n6_ n7_ n8_ n9_; clear hb hbox hg; have hnb11 := NB297_298.out; have hnc11 := NB298_297.out; have hnb12 := NB297_299.out; have hnc12 := NB299_297.out; have hcz13_0 : w10.cell? ⟨gb297, 0, none⟩ = some (.int .i64 a0_0) := (blk_cell BK297.out 0).trans rfl; have hcz13_1 : w10.cell? ⟨gb297, 1, none⟩ = some (.int .i64 a0_1) := (blk_cell BK297.out 1).trans rfl; have hfz13_0 := blk_frozen BK297.out 0; have hfz13_1 := blk_frozen BK297.out 1) | ((with_reducible refine gate_callee (f := 16) rfl ?_); refine goesL_ (some 7) rfl rfl Tryd.func16 (by kernel_rfl) rfl #[.agg #[.int .i64 a0_0, .int .i64 a0_1]] rfl (by (try simp only [List.map_toArray, List.map_cons, List.map_nil]); first | done | rfl | (simp only [List.length_drop, List.length_take]; rfl)) ?_; (with_reducible refine (assessorref46_Valid.calls k a0_0 a0_1 true _ A3.out).mono ?_); rintro e w14 ⟨rfl, hb⟩; refine ⟨_, rfl, ?_⟩; have n0_ := Aside0.mk (blk_below (g := gb297) (o := .cells #[.int .i64 a0_0, .int .i64 a0_1] 23 (0, 0)) (by (with_reducible repeat first | apply b1 | apply b2 | apply b3); exact BK297.out) hb); have n1_ := Aside0.mk (blk_below (g := gb298) (o := .cells #[.int .i64 a1_0, .int .i64 a1_1] 23 (0, 0)) (by (with_reducible repeat first | apply b1 | apply b2 | apply b3); exact BK298.out) hb); have n2_ := Aside0.mk (blk_below (g := gb299) (o := .cells #[.int .i64 0, .int .i64 0] 23 (0, 0)) (by (with_reducible repeat first | apply b1 | apply b2 | apply b3); exact BK299.out) hb); have n3_ := Aside0.mk (below_step (by repeat (first | (with_reducible first | exact HB.out | apply b4 | apply b5 | apply b6 | refine below_set ?_ GE297.out | refine below_set ?_ GE298.out | refine below_set ?_ GE299.out) | exact HB.out)) hb); clear BK297; clear BK298; clear BK299; clear HB; have BK297 := n0_; have BK298 := n1_; have BK299 := n2_; have HB := n3_; clear n0_ n1_ n2_ n3_; (try clear hb); (try clear hb2); (try clear hk); (try clear hi); have hnb15 := NB298_299.out; have hnc15 := NB299_298.out; have hcz16_0 : w14.cell? ⟨gb298, 0, none⟩ = some (.int .i64 a1_0) := (blk_cell BK298.out 0).trans rfl; have hcz16_1 : w14.cell? ⟨gb298, 1, none⟩ = some (.int .i64 a1_1) := (blk_cell BK298.out 1).trans rfl; have hfz16_0 := blk_frozen BK298.out 0; have hfz16_1 := blk_frozen BK298.out 1) | (go_at_call 16; (with_reducible refine (assessorref46_Valid.calls k a1_0 a1_1 true _ A5.out).mono ?_); rintro e w17 ⟨rfl, hb⟩; have n0_ := Aside0.mk (blk_below (g := gb297) (o := .cells #[.int .i64 a0_0, .int .i64 a0_1] 23 (0, 0)) (by (with_reducible repeat first | apply b1 | apply b2 | apply b3); exact BK297.out) hb); have n1_ := Aside0.mk (blk_below (g := gb298) (o := .cells #[.int .i64 a1_0, .int .i64 a1_1] 23 (0, 0)) (by (with_reducible repeat first | apply b1 | apply b2 | apply b3); exact BK298.out) hb); have n2_ := Aside0.mk (blk_below (g := gb299) (o := .cells #[.int .i64 0, .int .i64 0] 23 (0, 0)) (by (with_reducible repeat first | apply b1 | apply b2 | apply b3); exact BK299.out) hb); have n3_ := Aside0.mk (below_step (by repeat (first | (with_reducible first | exact HB.out | apply b4 | apply b5 | apply b6 | refine below_set ?_ GE297.out | refine below_set ?_ GE298.out | refine below_set ?_ GE299.out) | exact HB.out)) hb); clear BK297; clear BK298; clear BK299; clear HB; have BK297 := n0_; have BK298 := n1_; have BK299 := n2_; have HB := n3_; clear n0_ n1_ n2_ n3_; (try clear hb); (try clear hb2); (try clear hk); (try clear hi); have hcz18_0 : w17.cell? ⟨gb297, 0, none⟩ = some (.int .i64 a0_0) := (blk_cell BK297.out 0).trans rfl; have hcz18_1 : w17.cell? ⟨gb297, 1, none⟩ = some (.int .i64 a0_1) := (blk_cell BK297.out 1).trans rfl; have hfz18_0 := blk_frozen BK297.out 0; have hfz18_1 := blk_frozen BK297.out 1; have hcz19_0 : w17.cell? ⟨gb298, 0, none⟩ = some (.int .i64 a1_0) := (blk_cell BK298.out 0).trans rfl; have hcz19_1 : w17.cell? ⟨gb298, 1, none⟩ = some (.int .i64 a1_1) := (blk_cell BK298.out 1).trans rfl; have hfz19_0 := blk_frozen BK298.out 0; have hfz19_1 := blk_frozen BK298.out 1) | ((with_reducible refine gate_callee (f := 43) rfl ?_); refine goesL_ (some 31) rfl rfl Tryd.func43 (by kernel_rfl) rfl #[.int .i64 (wrap64 ((wrap64 (a0_0 * a1_1)) + (wrap64 (a1_0 * a0_1)))), .int .i64 (wrap64 (a0_1 * a1_1))] rfl (by (try simp only [List.map_toArray, List.map_cons, List.map_nil]); first | done | rfl | (simp only [List.length_drop, List.length_take]; rfl)) ?_; (with_reducible refine (assessorref46_reduce.calls k (wrap64 ((wrap64 (a0_0 * a1_1)) + (wrap64 (a1_0 * a0_1)))) (wrap64 (a0_1 * a1_1)) t302 t303 t304 _ A7.out).mono ?_); rintro e w20 ⟨rfl, hb⟩; refine ⟨_, rfl, ?_⟩; have n0_ := Aside0.mk (blk_below (g := gb297) (o := .cells #[.int .i64 a0_0, .int .i64 a0_1] 23 (0, 0)) (by (with_reducible repeat first | apply b1 | apply b2 | apply b3); exact BK297.out) hb); have n1_ := Aside0.mk (blk_below (g := gb298) (o := .cells #[.int .i64 a1_0, .int .i64 a1_1] 23 (0, 0)) (by (with_reducible repeat first | apply b1 | apply b2 | apply b3); exact BK298.out) hb); have n2_ := Aside0.mk (blk_below (g := gb299) (o := .cells #[.int .i64 0, .int .i64 0] 23 (0, 0)) (by (with_reducible repeat first | apply b1 | apply b2 | apply b3); exact BK299.out) hb); have n3_ := Aside0.mk (below_step (by repeat (first | (with_reducible first | exact HB.out | apply b4 | apply b5 | apply b6 | refine below_set ?_ GE297.out | refine below_set ?_ GE298.out | refine below_set ?_ GE299.out) | exact HB.out)) hb); clear BK297; clear BK298; clear BK299; clear HB; have BK297 := n0_; have BK298 := n1_; have BK299 := n2_; have HB := n3_; clear n0_ n1_ n2_ n3_; (try clear hb); (try clear hb2); (try clear hk); (try clear hi); have hcz21_0 : w20.cell? ⟨gb299, 0, none⟩ = some (.int .i64 0) := (blk_cell BK299.out 0).trans rfl; have hcz21_1 : w20.cell? ⟨gb299, 1, none⟩ = some (.int .i64 0) := (blk_cell BK299.out 1).trans rfl; have hfz21_0 := blk_frozen BK299.out 0; have hfz21_1 := blk_frozen BK299.out 1))
   refine bodyPost_ret (results_ct rfl _ _ gb299 23 #[.int .i64 t302, .int .i64 t303] (0, 0) _ rfl (by (with_reducible repeat first | apply b1 | apply b2 | apply b3); refine blk_put (cs := #[.int .i64 t302, .int .i64 0]) ?_ 1 _ rfl; (with_reducible repeat first | apply b1 | apply b2 | apply b3); refine blk_put (cs := #[.int .i64 0, .int .i64 0]) ?_ 0 _ rfl; (with_reducible repeat first | apply b1 | apply b2 | apply b3); exact BK299.out) Tryd.underlying23 rfl (by kernel_rfl)) rfl ?_
   exact ⟨by first | rfl | (simp [errW_none, errW_some] <;> rfl) | (simp [*, errW_none, errW_some] <;> rfl), by repeat (first | (with_reducible first | exact HB.out | apply b4 | apply b5 | apply b6 | refine below_set ?_ GE297.out | refine below_set ?_ GE298.out | refine below_set ?_ GE299.out) | exact HB.out)⟩
  ·
   replace c6 := Bool.eq_false_iff.mpr c6
   subst c6
   have H1 : (some (0, 0, 1)) = some (r1, r2, r3) := by rw [if_neg (show ¬ (false = true) by decide)] at H; exact H
   clear H
   have H := H1
   clear H1
   simp only [Option.some.injEq, Prod.mk.injEq] at H
   obtain ⟨rfl, rfl, rfl⟩ := H
   go_enter Tryd.func28, Tryd.ntmps28
   go_wp2_with (first | ((with_reducible refine gate_dst (N := 2) rfl ?_); refine box_event ?hg (N := 2) ?hd (cs := #[.int .i64 a0_0, .int .i64 a0_1]) (t := 23) ?hr ?_; (case hd => rfl); (case hg => rfl); (case hr => first | (go_simp; done) | (go_simp; rfl)); intro gb297 hg w22 hbox hb; have n0_ := Aside0.mk (below_step (by repeat (first | (with_reducible first | exact HB.out | apply b4 | apply b5 | apply b6) | exact HB.out)) hb); have n1_ := Aside0.mk (hbox); have n2_ := Aside0.mk ((by rw [hg]; exact (below_size (by repeat (first | (with_reducible first | exact HB.out | apply b4 | apply b5 | apply b6) | exact HB.out))) : w.heap.size ≤ gb297)); have n3_ := Aside0.mk ((by rw [hg]; exact (below_size (by repeat (first | (with_reducible first | exact HB.out | apply b4 | apply b5 | apply b6) | exact HB.out))) : w.heap.size ≤ gb297)); clear HB; have HB := n0_; have BK297 := n1_; have GW297 := n2_; have GE297 := n3_; clear n0_ n1_ n2_ n3_; clear hb hbox hg) | ((with_reducible refine gate_dst (N := 3) rfl ?_); refine box_event ?hg (N := 3) ?hd (cs := #[.int .i64 a1_0, .int .i64 a1_1]) (t := 23) ?hr ?_; (case hd => rfl); (case hg => rfl); (case hr => first | (go_simp; done) | (go_simp; rfl)); intro gb298 hg w23 hbox hb; have n0_ := Aside0.mk (blk_below (g := gb297) (o := .cells #[.int .i64 a0_0, .int .i64 a0_1] 23 (0, 0)) (by (with_reducible repeat first | apply b1 | apply b2 | apply b3); exact BK297.out) hb); have n1_ := Aside0.mk (below_step (by repeat (first | (with_reducible first | exact HB.out | apply b4 | apply b5 | apply b6 | refine below_set ?_ GE297.out) | exact HB.out)) hb); have n2_ := Aside0.mk (hbox); have n3_ := Aside0.mk ((by rw [hg]; exact (below_size (by repeat (first | (with_reducible first | exact HB.out | apply b4 | apply b5 | apply b6 | refine below_set ?_ GE297.out) | exact HB.out))) : w.heap.size ≤ gb298)); have n4_ := Aside0.mk ((by rw [hg]; exact (below_size (by repeat (first | (with_reducible first | exact HB.out | apply b4 | apply b5 | apply b6 | refine below_set ?_ GE297.out) | exact HB.out))) : w.heap.size ≤ gb298)); have n5_ := Aside0.mk ((by rw [hg]; exact Nat.ne_of_lt (blk_lt (g := gb297) (o := .cells #[.int .i64 a0_0, .int .i64 a0_1] 23 (0, 0)) (by (with_reducible repeat first | apply b1 | apply b2 | apply b3); exact BK297.out)) : gb297 ≠ gb298)); have n6_ := Aside0.mk ((by rw [hg]; exact Nat.ne_of_gt (blk_lt (g := gb297) (o := .cells #[.int .i64 a0_0, .int .i64 a0_1] 23 (0, 0)) (by (with_reducible repeat first | apply b1 | apply b2 | apply b3); exact BK297.out)) : gb298 ≠ gb297)); clear BK297; clear HB; have BK297 := n0_; have HB := n1_; have BK298 := n2_; have GW298 := n3_; have GE298 := n4_; have NB297_298 := n5_; have NB298_297 := n6_; clear n0_ n1_ n2_ n3_ n4_ n5_ n6_; clear hb hbox hg) | ((with_reducible refine gate_dst (N := 4) rfl ?_); refine box_event ?hg (N := 4) ?hd (cs := #[.int .i64 0, .int .i64 0]) (t := 23) ?hr ?_; (case hd => rfl); (case hg => rfl); (case hr => first | (go_simp; done) | (go_simp; rfl)); intro gb299 hg w24 hbox hb; have n0_ := Aside0.mk (blk_below (g := gb297) (o := .cells #[.int .i64 a0_0, .int .i64 a0_1] 23 (0, 0)) (by (with_reducible repeat first | apply b1 | apply b2 | apply b3); exact BK297.out) hb); have n1_ := Aside0.mk (blk_below (g := gb298) (o := .cells #[.int .i64 a1_0, .int .i64 a1_1] 23 (0, 0)) (by (with_reducible repeat first | apply b1 | apply b2 | apply b3); exact BK298.out) hb); have n2_ := Aside0.mk (below_step (by repeat (first | (with_reducible first | exact HB.out | apply b4 | apply b5 | apply b6 | refine below_set ?_ GE297.out | refine below_set ?_ GE298.out) | exact HB.out)) hb); have n3_ := Aside0.mk (hbox); have n4_ := Aside0.mk ((by rw [hg]; exact (below_size (by repeat (first | (with_reducible first | exact HB.out | apply b4 | apply b5 | apply b6 | refine below_set ?_ GE297.out | refine below_set ?_ GE298.out) | exact HB.out))) : w.heap.size ≤ gb299)); have n5_ := Aside0.mk ((by rw [hg]; exact (below_size (by repeat (first | (with_reducible first | exact HB.out | apply b4 | apply b5 | apply b6 | refine below_set ?_ GE297.out | refine below_set ?_ GE298.out) | exact HB.out))) : w.heap.size ≤ gb299)); have n6_ := Aside0.mk ((by rw [hg]; exact Nat.ne_of_lt (blk_lt (g := gb297) (o := .cells #[.int .i64 a0_0, .int .i64 a0_1] 23 (0, 0)) (by (with_reducible repeat first | apply b1 | apply b2 | apply b3); exact BK297.out)) : gb297 ≠ gb299)); have n7_ := Aside0.mk ((by rw [hg]; exact Nat.ne_of_gt (blk_lt (g := gb297) (o := .cells #[.int .i64 a0_0, .int .i64 a0_1] 23 (0, 0)) (by (with_reducible repeat first | apply b1 | apply b2 | apply b3); exact BK297.out)) : gb299 ≠ gb297)); have n8_ := Aside0.mk ((by rw [hg]; exact Nat.ne_of_lt (blk_lt (g := gb298) (o := .cells #[.int .i64 a1_0, .int .i64 a1_1] 23 (0, 0)) (by (with_reducible repeat first | apply b1 | apply b2 | apply b3); exact BK298.out)) : gb298 ≠ gb299)); have n9_ := Aside0.mk ((by rw [hg]; exact Nat.ne_of_gt (blk_lt (g := gb298) (o := .cells #[.int .i64 a1_0, .int .i64 a1_1] 23 (0, 0)) (by (with_reducible repeat first | apply b1 | apply b2 | apply b3); exact BK298.out)) : gb299 ≠ gb298)); clear BK297; clear BK298; clear HB; have BK297 := n0_; have BK298 := n1_; have HB := n2_; have BK299 := n3_; have GW299 := n4_; have GE299 := n5_; have NB297_299 := n6_; have NB299_297 := n7_; have NB298_299 := n8_; have NB299_298 := n9_; clear n0_ n1_ n2_ n3_ n4_ n5_ n6_ n7_ n8_ n9_; clear hb hbox hg; have hnb25 := NB297_298.out; have hnc25 := NB298_297.out; have hnb26 := NB297_299.out; have hnc26 := NB299_297.out; have hcz27_0 : w24.cell? ⟨gb297, 0, none⟩ = some (.int .i64 a0_0) := (blk_cell BK297.out 0).trans rfl; have hcz27_1 : w24.cell? ⟨gb297, 1, none⟩ = some (.int .i64 a0_1) := (blk_cell BK297.out 1).trans rfl; have hfz27_0 := blk_frozen BK297.out 0; have hfz27_1 := blk_frozen BK297.out 1) | ((with_reducible refine gate_callee (f := 16) rfl ?_); refine goesL_ (some 7) rfl rfl Tryd.func16 (by kernel_rfl) rfl #[.agg #[.int .i64 a0_0, .int .i64 a0_1]] rfl (by (try simp only [List.map_toArray, List.map_cons, List.map_nil]); first | done | rfl | (simp only [List.length_drop, List.length_take]; rfl)) ?_; (with_reducible refine (assessorref46_Valid.calls k a0_0 a0_1 true _ A3.out).mono ?_); rintro e w28 ⟨rfl, hb⟩; refine ⟨_, rfl, ?_⟩; have n0_ := Aside0.mk (blk_below (g := gb297) (o := .cells #[.int .i64 a0_0, .int .i64 a0_1] 23 (0, 0)) (by (with_reducible repeat first | apply b1 | apply b2 | apply b3); exact BK297.out) hb); have n1_ := Aside0.mk (blk_below (g := gb298) (o := .cells #[.int .i64 a1_0, .int .i64 a1_1] 23 (0, 0)) (by (with_reducible repeat first | apply b1 | apply b2 | apply b3); exact BK298.out) hb); have n2_ := Aside0.mk (blk_below (g := gb299) (o := .cells #[.int .i64 0, .int .i64 0] 23 (0, 0)) (by (with_reducible repeat first | apply b1 | apply b2 | apply b3); exact BK299.out) hb); have n3_ := Aside0.mk (below_step (by repeat (first | (with_reducible first | exact HB.out | apply b4 | apply b5 | apply b6 | refine below_set ?_ GE297.out | refine below_set ?_ GE298.out | refine below_set ?_ GE299.out) | exact HB.out)) hb); clear BK297; clear BK298; clear BK299; clear HB; have BK297 := n0_; have BK298 := n1_; have BK299 := n2_; have HB := n3_; clear n0_ n1_ n2_ n3_; (try clear hb); (try clear hb2); (try clear hk); (try clear hi); have hnb29 := NB298_299.out; have hnc29 := NB299_298.out; have hcz30_0 : w28.cell? ⟨gb298, 0, none⟩ = some (.int .i64 a1_0) := (blk_cell BK298.out 0).trans rfl; have hcz30_1 : w28.cell? ⟨gb298, 1, none⟩ = some (.int .i64 a1_1) := (blk_cell BK298.out 1).trans rfl; have hfz30_0 := blk_frozen BK298.out 0; have hfz30_1 := blk_frozen BK298.out 1) | (go_at_call 16; (with_reducible refine (assessorref46_Valid.calls k a1_0 a1_1 false _ A5.out).mono ?_); rintro e w31 ⟨rfl, hb⟩; have n0_ := Aside0.mk (blk_below (g := gb297) (o := .cells #[.int .i64 a0_0, .int .i64 a0_1] 23 (0, 0)) (by (with_reducible repeat first | apply b1 | apply b2 | apply b3); exact BK297.out) hb); have n1_ := Aside0.mk (blk_below (g := gb298) (o := .cells #[.int .i64 a1_0, .int .i64 a1_1] 23 (0, 0)) (by (with_reducible repeat first | apply b1 | apply b2 | apply b3); exact BK298.out) hb); have n2_ := Aside0.mk (blk_below (g := gb299) (o := .cells #[.int .i64 0, .int .i64 0] 23 (0, 0)) (by (with_reducible repeat first | apply b1 | apply b2 | apply b3); exact BK299.out) hb); have n3_ := Aside0.mk (below_step (by repeat (first | (with_reducible first | exact HB.out | apply b4 | apply b5 | apply b6 | refine below_set ?_ GE297.out | refine below_set ?_ GE298.out | refine below_set ?_ GE299.out) | exact HB.out)) hb); clear BK297; clear BK298; clear BK299; clear HB; have BK297 := n0_; have BK298 := n1_; have BK299 := n2_; have HB := n3_; clear n0_ n1_ n2_ n3_; (try clear hb); (try clear hb2); (try clear hk); (try clear hi); have hcz32_0 : w31.cell? ⟨gb299, 0, none⟩ = some (.int .i64 0) := (blk_cell BK299.out 0).trans rfl; have hcz32_1 : w31.cell? ⟨gb299, 1, none⟩ = some (.int .i64 0) := (blk_cell BK299.out 1).trans rfl; have hfz32_0 := blk_frozen BK299.out 0; have hfz32_1 := blk_frozen BK299.out 1))
   refine bodyPost_ret (results_ct rfl _ _ gb299 23 #[.int .i64 0, .int .i64 0] (0, 0) _ rfl (by (with_reducible repeat first | apply b1 | apply b2 | apply b3); refine blk_put (cs := #[.int .i64 0, .int .i64 0]) ?_ 1 _ rfl; (with_reducible repeat first | apply b1 | apply b2 | apply b3); refine blk_put (cs := #[.int .i64 0, .int .i64 0]) ?_ 0 _ rfl; (with_reducible repeat first | apply b1 | apply b2 | apply b3); exact BK299.out) Tryd.underlying23 rfl (by kernel_rfl)) rfl ?_
   exact ⟨by first | rfl | (simp [errW_none, errW_some] <;> rfl) | (simp [*, errW_none, errW_some] <;> rfl), by repeat (first | (with_reducible first | exact HB.out | apply b4 | apply b5 | apply b6 | refine below_set ?_ GE297.out | refine below_set ?_ GE298.out | refine below_set ?_ GE299.out) | exact HB.out)⟩
 ·
  replace c4 := Bool.eq_false_iff.mpr c4
  subst c4
  have H1 : (some (0, 0, 1)) = some (r1, r2, r3) := by rw [if_neg (show ¬ (false = true) by decide)] at H; exact H
  clear H
  have H := H1
  clear H1
  simp only [Option.some.injEq, Prod.mk.injEq] at H
  obtain ⟨rfl, rfl, rfl⟩ := H
  go_enter Tryd.func28, Tryd.ntmps28
  go_wp2_with (first | ((with_reducible refine gate_dst (N := 2) rfl ?_); refine box_event ?hg (N := 2) ?hd (cs := #[.int .i64 a0_0, .int .i64 a0_1]) (t := 23) ?hr ?_; (case hd => rfl); (case hg => rfl); (case hr => first | (go_simp; done) | (go_simp; rfl)); intro gb297 hg w33 hbox hb; have n0_ := Aside0.mk (below_step (by repeat (first | (with_reducible first | exact HB.out | apply b4 | apply b5 | apply b6) | exact HB.out)) hb); have n1_ := Aside0.mk (hbox); have n2_ := Aside0.mk ((by rw [hg]; exact (below_size (by repeat (first | (with_reducible first | exact HB.out | apply b4 | apply b5 | apply b6) | exact HB.out))) : w.heap.size ≤ gb297)); have n3_ := Aside0.mk ((by rw [hg]; exact (below_size (by repeat (first | (with_reducible first | exact HB.out | apply b4 | apply b5 | apply b6) | exact HB.out))) : w.heap.size ≤ gb297)); clear HB; have HB := n0_; have BK297 := n1_; have GW297 := n2_; have GE297 := n3_; clear n0_ n1_ n2_ n3_; clear hb hbox hg) | ((with_reducible refine gate_dst (N := 3) rfl ?_); refine box_event ?hg (N := 3) ?hd (cs := #[.int .i64 a1_0, .int .i64 a1_1]) (t := 23) ?hr ?_; (case hd => rfl); (case hg => rfl); (case hr => first | (go_simp; done) | (go_simp; rfl)); intro gb298 hg w34 hbox hb; have n0_ := Aside0.mk (blk_below (g := gb297) (o := .cells #[.int .i64 a0_0, .int .i64 a0_1] 23 (0, 0)) (by (with_reducible repeat first | apply b1 | apply b2 | apply b3); exact BK297.out) hb); have n1_ := Aside0.mk (below_step (by repeat (first | (with_reducible first | exact HB.out | apply b4 | apply b5 | apply b6 | refine below_set ?_ GE297.out) | exact HB.out)) hb); have n2_ := Aside0.mk (hbox); have n3_ := Aside0.mk ((by rw [hg]; exact (below_size (by repeat (first | (with_reducible first | exact HB.out | apply b4 | apply b5 | apply b6 | refine below_set ?_ GE297.out) | exact HB.out))) : w.heap.size ≤ gb298)); have n4_ := Aside0.mk ((by rw [hg]; exact (below_size (by repeat (first | (with_reducible first | exact HB.out | apply b4 | apply b5 | apply b6 | refine below_set ?_ GE297.out) | exact HB.out))) : w.heap.size ≤ gb298)); have n5_ := Aside0.mk ((by rw [hg]; exact Nat.ne_of_lt (blk_lt (g := gb297) (o := .cells #[.int .i64 a0_0, .int .i64 a0_1] 23 (0, 0)) (by (with_reducible repeat first | apply b1 | apply b2 | apply b3); exact BK297.out)) : gb297 ≠ gb298)); have n6_ := Aside0.mk ((by rw [hg]; exact Nat.ne_of_gt (blk_lt (g := gb297) (o := .cells #[.int .i64 a0_0, .int .i64 a0_1] 23 (0, 0)) (by (with_reducible repeat first | apply b1 | apply b2 | apply b3); exact BK297.out)) : gb298 ≠ gb297)); clear BK297; clear HB; have BK297 := n0_; have HB := n1_; have BK298 := n2_; have GW298 := n3_; have GE298 := n4_; have NB297_298 := n5_; have NB298_297 := n6_; clear n0_ n1_ n2_ n3_ n4_ n5_ n6_; clear hb hbox hg) | ((with_reducible refine gate_dst (N := 4) rfl ?_); refine box_event ?hg (N := 4) ?hd (cs := #[.int .i64 0, .int .i64 0]) (t := 23) ?hr ?_; (case hd => rfl); (case hg => rfl); (case hr => first | (go_simp; done) | (go_simp; rfl)); intro gb299 hg w35 hbox hb; have n0_ := Aside0.mk (blk_below (g := gb297) (o := .cells #[.int .i64 a0_0, .int .i64 a0_1] 23 (0, 0)) (by (with_reducible repeat first | apply b1 | apply b2 | apply b3); exact BK297.out) hb); have n1_ := Aside0.mk (blk_below (g := gb298) (o := .cells #[.int .i64 a1_0, .int .i64 a1_1] 23 (0, 0)) (by (with_reducible repeat first | apply b1 | apply b2 | apply b3); exact BK298.out) hb); have n2_ := Aside0.mk (below_step (by repeat (first | (with_reducible first | exact HB.out | apply b4 | apply b5 | apply b6 | refine below_set ?_ GE297.out | refine below_set ?_ GE298.out) | exact HB.out)) hb); have n3_ := Aside0.mk (hbox); have n4_ := Aside0.mk ((by rw [hg]; exact (below_size (by repeat (first | (with_reducible first | exact HB.out | apply b4 | apply b5 | apply b6 | refine below_set ?_ GE297.out | refine below_set ?_ GE298.out) | exact HB.out))) : w.heap.size ≤ gb299)); have n5_ := Aside0.mk ((by rw [hg]; exact (below_size (by repeat (first | (with_reducible first | exact HB.out | apply b4 | apply b5 | apply b6 | refine below_set ?_ GE297.out | refine below_set ?_ GE298.out) | exact HB.out))) : w.heap.size ≤ gb299)); have n6_ := Aside0.mk ((by rw [hg]; exact Nat.ne_of_lt (blk_lt (g := gb297) (o := .cells #[.int .i64 a0_0, .int .i64 a0_1] 23 (0, 0)) (by (with_reducible repeat first | apply b1 | apply b2 | apply b3); exact BK297.out)) : gb297 ≠ gb299)); have n7_ := Aside0.mk ((by rw [hg]; exact Nat.ne_of_gt (blk_lt (g := gb297) (o := .cells #[.int .i64 a0_0, .int .i64 a0_1] 23 (0, 0)) (by (with_reducible repeat first | apply b1 | apply b2 | apply b3); exact BK297.out)) : gb299 ≠ gb297)); have n8_ := Aside0.mk ((by rw [hg]; exact Nat.ne_of_lt (blk_lt (g := gb298) (o := .cells #[.int .i64 a1_0, .int .i64 a1_1] 23 (0, 0)) (by (with_reducible repeat first | apply b1 | apply b2 | apply b3); exact BK298.out)) : gb298 ≠ gb299)); have n9_ := Aside0.mk ((by rw [hg]; exact Nat.ne_of_gt (blk_lt (g := gb298) (o := .cells #[.int .i64 a1_0, .int .i64 a1_1] 23 (0, 0)) (by (with_reducible repeat first | apply b1 | apply b2 | apply b3); exact BK298.out)) : gb299 ≠ gb298)); clear BK297; clear BK298; clear HB; have BK297 := n0_; have BK298 := n1_; have HB := n2_; have BK299 := n3_; have GW299 := n4_; have GE299 := n5_; have NB297_299 := n6_; have NB299_297 := n7_; have NB298_299 := n8_; have NB299_298 := n9_; clear n0_ n1_ n2_ n3_ n4_ n5_ n6_ n7_ n8_ n9_; clear hb hbox hg; have hnb36 := NB297_298.out; have hnc36 := NB298_297.out; have hnb37 := NB297_299.out; have hnc37 := NB299_297.out; have hcz38_0 : w35.cell? ⟨gb297, 0, none⟩ = some (.int .i64 a0_0) := (blk_cell BK297.out 0).trans rfl; have hcz38_1 : w35.cell? ⟨gb297, 1, none⟩ = some (.int .i64 a0_1) := (blk_cell BK297.out 1).trans rfl; have hfz38_0 := blk_frozen BK297.out 0; have hfz38_1 := blk_frozen BK297.out 1) | ((with_reducible refine gate_callee (f := 16) rfl ?_); refine goesL_ (some 7) rfl rfl Tryd.func16 (by kernel_rfl) rfl #[.agg #[.int .i64 a0_0, .int .i64 a0_1]] rfl (by (try simp only [List.map_toArray, List.map_cons, List.map_nil]); first | done | rfl | (simp only [List.length_drop, List.length_take]; rfl)) ?_; (with_reducible refine (assessorref46_Valid.calls k a0_0 a0_1 false _ A3.out).mono ?_); rintro e w39 ⟨rfl, hb⟩; refine ⟨_, rfl, ?_⟩; have n0_ := Aside0.mk (blk_below (g := gb297) (o := .cells #[.int .i64 a0_0, .int .i64 a0_1] 23 (0, 0)) (by (with_reducible repeat first | apply b1 | apply b2 | apply b3); exact BK297.out) hb); have n1_ := Aside0.mk (blk_below (g := gb298) (o := .cells #[.int .i64 a1_0, .int .i64 a1_1] 23 (0, 0)) (by (with_reducible repeat first | apply b1 | apply b2 | apply b3); exact BK298.out) hb); have n2_ := Aside0.mk (blk_below (g := gb299) (o := .cells #[.int .i64 0, .int .i64 0] 23 (0, 0)) (by (with_reducible repeat first | apply b1 | apply b2 | apply b3); exact BK299.out) hb); have n3_ := Aside0.mk (below_step (by repeat (first | (with_reducible first | exact HB.out | apply b4 | apply b5 | apply b6 | refine below_set ?_ GE297.out | refine below_set ?_ GE298.out | refine below_set ?_ GE299.out) | exact HB.out)) hb); clear BK297; clear BK298; clear BK299; clear HB; have BK297 := n0_; have BK298 := n1_; have BK299 := n2_; have HB := n3_; clear n0_ n1_ n2_ n3_; (try clear hb); (try clear hb2); (try clear hk); (try clear hi); have hnb40 := NB299_298.out; have hnc40 := NB298_299.out; have hcz41_0 : w39.cell? ⟨gb299, 0, none⟩ = some (.int .i64 0) := (blk_cell BK299.out 0).trans rfl; have hcz41_1 : w39.cell? ⟨gb299, 1, none⟩ = some (.int .i64 0) := (blk_cell BK299.out 1).trans rfl; have hfz41_0 := blk_frozen BK299.out 0; have hfz41_1 := blk_frozen BK299.out 1))
  refine bodyPost_ret (results_ct rfl _ _ gb299 23 #[.int .i64 0, .int .i64 0] (0, 0) _ rfl (by (with_reducible repeat first | apply b1 | apply b2 | apply b3); refine blk_put (cs := #[.int .i64 0, .int .i64 0]) ?_ 1 _ rfl; (with_reducible repeat first | apply b1 | apply b2 | apply b3); refine blk_put (cs := #[.int .i64 0, .int .i64 0]) ?_ 0 _ rfl; (with_reducible repeat first | apply b1 | apply b2 | apply b3); exact BK299.out) Tryd.underlying23 rfl (by kernel_rfl)) rfl ?_
  exact ⟨by first | rfl | (simp [errW_none, errW_some] <;> rfl) | (simp [*, errW_none, errW_some] <;> rfl), by repeat (first | (with_reducible first | exact HB.out | apply b4 | apply b5 | apply b6 | refine below_set ?_ GE297.out | refine below_set ?_ GE298.out | refine below_set ?_ GE299.out) | exact HB.out)⟩

end Go.Proofs.YtkfibjmjamdigaaDoor.Q

namespace Go.Proofs.YtkfibjmjamdigaaDoor.Q
open Go.RowKit Go.Proofs.YtkfibjmjamdigaaDoorW.PrintWords Go.Proofs.YtkfibjmjamdigaaDoorW.PrintLast Go.Proofs.YtkfibjmjamdigaaDoorW.PrintMore
attribute [local go_sem] max2_int min2_int max_two min_two max_three min_three max_four min_four   -- for this text's walks alone
set_option linter.unusedVariables false
set_option linter.unusedSimpArgs false


def assessorref46_Negate.f (k : Nat) (a0_0 : Int) (a0_1 : Int) : Option (Int × Int) := (assessorref46_Valid.f k a0_0 a0_1).bind fun t307 => (if t307 = true then (some (wrap64 (-a0_0), a0_1)) else (some (a0_0, a0_1)))
theorem assessorref46_Negate.mono : ∀ a0 a1 k, LeO (assessorref46_Negate.f k a0 a1) (assessorref46_Negate.f (k + 1) a0 a1) := by
 intro a0 a1 k
 unfold assessorref46_Negate.f
 repeat' first
   | (with_reducible exact assessorref46_Valid.mono _ _ _)
   | (with_reducible exact LeO.refl _)
   | (with_reducible exact LeO.none _)
   | (with_reducible refine LeO.ite ?_ ?_)
   | (with_reducible refine LeO.bind ?_ (fun _ => ?_))
   | exact assessorref46_Valid.mono _ _ _
   | exact LeO.none _
   | refine LeO.ite ?_ ?_
   | refine LeO.bind ?_ (fun _ => ?_)
set_option maxHeartbeats 8000000 in
set_option maxRecDepth 100000 in
theorem assessorref46_Negate.calls (k : Nat) (a0_0 : Int) (a0_1 : Int) (r1 : Int) (r2 : Int) (w : World) (h : assessorref46_Negate.f k a0_0 a0_1 = some (r1, r2)) :
  Calls Tryd.prog 58 #[.agg #[.int .i64 a0_0, .int .i64 a0_1]] w fun e w' => e = .returned (.agg #[.int .i64 r1, .int .i64 r2]) ∧ Below w.heap.size w w' := by
 have hu23 := Tryd.underlying23
 have HB := Aside0.mk (Below.refl w.heap.size w)
 have H : ((assessorref46_Valid.f k a0_0 a0_1).bind fun t307 => (if t307 = true then (some (wrap64 (-a0_0), a0_1)) else (some (a0_0, a0_1)))) = some (r1, r2) := h
 clear h
 replace H := Option.bind_eq_some_iff.mp H
 obtain ⟨t307, A20, H⟩ := H
 replace H : (if t307 = true then (some (wrap64 (-a0_0), a0_1)) else (some (a0_0, a0_1))) = some (r1, r2) := H
 have A2 := Aside0.mk A20
 clear A20
 by_cases c3 : t307 = true
 ·
  subst c3
  have H1 : (some (wrap64 (-a0_0), a0_1)) = some (r1, r2) := by rw [if_pos rfl] at H; exact H
  clear H
  have H := H1
  clear H1
  simp only [Option.some.injEq, Prod.mk.injEq] at H
  obtain ⟨rfl, rfl⟩ := H
  go_enter Tryd.func58, Tryd.ntmps58
  go_wp2_with (first | ((with_reducible refine gate_dst (N := 1) rfl ?_); refine box_event ?hg (N := 1) ?hd (cs := #[.int .i64 a0_0, .int .i64 a0_1]) (t := 23) ?hr ?_; (case hd => rfl); (case hg => rfl); (case hr => first | (go_simp; done) | (go_simp; rfl)); intro gb305 hg w4 hbox hb; have n0_ := Aside0.mk (below_step (by repeat (first | (with_reducible first | exact HB.out | apply b4 | apply b5 | apply b6) | exact HB.out)) hb); have n1_ := Aside0.mk (hbox); have n2_ := Aside0.mk ((by rw [hg]; exact (below_size (by repeat (first | (with_reducible first | exact HB.out | apply b4 | apply b5 | apply b6) | exact HB.out))) : w.heap.size ≤ gb305)); have n3_ := Aside0.mk ((by rw [hg]; exact (below_size (by repeat (first | (with_reducible first | exact HB.out | apply b4 | apply b5 | apply b6) | exact HB.out))) : w.heap.size ≤ gb305)); clear HB; have HB := n0_; have BK305 := n1_; have GW305 := n2_; have GE305 := n3_; clear n0_ n1_ n2_ n3_; clear hb hbox hg) | ((with_reducible refine gate_dst (N := 2) rfl ?_); refine box_event ?hg (N := 2) ?hd (cs := #[.int .i64 0, .int .i64 0]) (t := 23) ?hr ?_; (case hd => rfl); (case hg => rfl); (case hr => first | (go_simp; done) | (go_simp; rfl)); intro gb306 hg w5 hbox hb; have n0_ := Aside0.mk (blk_below (g := gb305) (o := .cells #[.int .i64 a0_0, .int .i64 a0_1] 23 (0, 0)) (by (with_reducible repeat first | apply b1 | apply b2 | apply b3); exact BK305.out) hb); have n1_ := Aside0.mk (below_step (by repeat (first | (with_reducible first | exact HB.out | apply b4 | apply b5 | apply b6 | refine below_set ?_ GE305.out) | exact HB.out)) hb); have n2_ := Aside0.mk (hbox); have n3_ := Aside0.mk ((by rw [hg]; exact (below_size (by repeat (first | (with_reducible first | exact HB.out | apply b4 | apply b5 | apply b6 | refine below_set ?_ GE305.out) | exact HB.out))) : w.heap.size ≤ gb306)); have n4_ := Aside0.mk ((by rw [hg]; exact (below_size (by repeat (first | (with_reducible first | exact HB.out | apply b4 | apply b5 | apply b6 | refine below_set ?_ GE305.out) | exact HB.out))) : w.heap.size ≤ gb306)); have n5_ := Aside0.mk ((by rw [hg]; exact Nat.ne_of_lt (blk_lt (g := gb305) (o := .cells #[.int .i64 a0_0, .int .i64 a0_1] 23 (0, 0)) (by (with_reducible repeat first | apply b1 | apply b2 | apply b3); exact BK305.out)) : gb305 ≠ gb306)); have n6_ := Aside0.mk ((by rw [hg]; exact Nat.ne_of_gt (blk_lt (g := gb305) (o := .cells #[.int .i64 a0_0, .int .i64 a0_1] 23 (0, 0)) (by (with_reducible repeat first | apply b1 | apply b2 | apply b3); exact BK305.out)) : gb306 ≠ gb305)); clear BK305; clear HB; have BK305 := n0_; have HB := n1_; have BK306 := n2_; have GW306 := n3_; have GE306 := n4_; have NB305_306 := n5_; have NB306_305 := n6_; clear n0_ n1_ n2_ n3_ n4_ n5_ n6_; clear hb hbox hg; have hnb6 := NB305_306.out; have hnc6 := NB306_305.out; have hcz7_0 : w5.cell? ⟨gb305, 0, none⟩ = some (.int .i64 a0_0) := (blk_cell BK305.out 0).trans rfl; have hcz7_1 : w5.cell? ⟨gb305, 1, none⟩ = some (.int .i64 a0_1) := (blk_cell BK305.out 1).trans rfl; have hfz7_0 := blk_frozen BK305.out 0; have hfz7_1 := blk_frozen BK305.out 1) | ((with_reducible refine gate_callee (f := 16) rfl ?_); refine goesL_ (some 4) rfl rfl Tryd.func16 (by kernel_rfl) rfl #[.agg #[.int .i64 a0_0, .int .i64 a0_1]] rfl (by (try simp only [List.map_toArray, List.map_cons, List.map_nil]); first | done | rfl | (simp only [List.length_drop, List.length_take]; rfl)) ?_; (with_reducible refine (assessorref46_Valid.calls k a0_0 a0_1 true _ A2.out).mono ?_); rintro e w8 ⟨rfl, hb⟩; refine ⟨_, rfl, ?_⟩; have n0_ := Aside0.mk (blk_below (g := gb305) (o := .cells #[.int .i64 a0_0, .int .i64 a0_1] 23 (0, 0)) (by (with_reducible repeat first | apply b1 | apply b2 | apply b3); exact BK305.out) hb); have n1_ := Aside0.mk (blk_below (g := gb306) (o := .cells #[.int .i64 0, .int .i64 0] 23 (0, 0)) (by (with_reducible repeat first | apply b1 | apply b2 | apply b3); exact BK306.out) hb); have n2_ := Aside0.mk (below_step (by repeat (first | (with_reducible first | exact HB.out | apply b4 | apply b5 | apply b6 | refine below_set ?_ GE305.out | refine below_set ?_ GE306.out) | exact HB.out)) hb); clear BK305; clear BK306; clear HB; have BK305 := n0_; have BK306 := n1_; have HB := n2_; clear n0_ n1_ n2_; (try clear hb); (try clear hb2); (try clear hk); (try clear hi); have hcz9_0 : w8.cell? ⟨gb305, 0, none⟩ = some (.int .i64 a0_0) := (blk_cell BK305.out 0).trans rfl; have hcz9_1 : w8.cell? ⟨gb305, 1, none⟩ = some (.int .i64 a0_1) := (blk_cell BK305.out 1).trans rfl; have hfz9_0 := blk_frozen BK305.out 0; have hfz9_1 := blk_frozen BK305.out 1; have hcz10_0 : w8.cell? ⟨gb306, 0, none⟩ = some (.int .i64 0) := (blk_cell BK306.out 0).trans rfl; have hcz10_1 : w8.cell? ⟨gb306, 1, none⟩ = some (.int .i64 0) := (blk_cell BK306.out 1).trans rfl; have hfz10_0 := blk_frozen BK306.out 0; have hfz10_1 := blk_frozen BK306.out 1))
  refine bodyPost_ret (results_cell_row rfl _ _ gb306 23 #[.int .i64 (wrap64 (-a0_0)), .int .i64 a0_1] (0, 0) _ rfl (by (with_reducible repeat first | apply b1 | apply b2 | apply b3); refine blk_put (cs := #[.int .i64 (wrap64 (-a0_0)), .int .i64 0]) ?_ 1 _ rfl; (with_reducible repeat first | apply b1 | apply b2 | apply b3); refine blk_put (cs := #[.int .i64 0, .int .i64 0]) ?_ 0 _ rfl; (with_reducible repeat first | apply b1 | apply b2 | apply b3); exact BK306.out) Tryd.underlying23 rfl (by kernel_rfl)) rfl ?_
  exact ⟨by first | rfl | (simp [errW_none, errW_some] <;> rfl) | (simp [*, errW_none, errW_some] <;> rfl), by repeat (first | (with_reducible first | exact HB.out | apply b4 | apply b5 | apply b6 | refine below_set ?_ GE305.out | refine below_set ?_ GE306.out) | exact HB.out)⟩
 ·
  replace c3 := Bool.eq_false_iff.mpr c3
  subst c3
  have H1 : (some (a0_0, a0_1)) = some (r1, r2) := by rw [if_neg (show ¬ (false = true) by decide)] at H; exact H
  clear H
  have H := H1
  clear H1
  simp only [Option.some.injEq, Prod.mk.injEq] at H
  obtain ⟨rfl, rfl⟩ := H
  go_enter Tryd.func58, Tryd.ntmps58
  go_wp2_with (first | ((with_reducible refine gate_dst (N := 1) rfl ?_); refine box_event ?hg (N := 1) ?hd (cs := #[.int .i64 a0_0, .int .i64 a0_1]) (t := 23) ?hr ?_; (case hd => rfl); (case hg => rfl); (case hr => first | (go_simp; done) | (go_simp; rfl)); intro gb305 hg w11 hbox hb; have n0_ := Aside0.mk (below_step (by repeat (first | (with_reducible first | exact HB.out | apply b4 | apply b5 | apply b6) | exact HB.out)) hb); have n1_ := Aside0.mk (hbox); have n2_ := Aside0.mk ((by rw [hg]; exact (below_size (by repeat (first | (with_reducible first | exact HB.out | apply b4 | apply b5 | apply b6) | exact HB.out))) : w.heap.size ≤ gb305)); have n3_ := Aside0.mk ((by rw [hg]; exact (below_size (by repeat (first | (with_reducible first | exact HB.out | apply b4 | apply b5 | apply b6) | exact HB.out))) : w.heap.size ≤ gb305)); clear HB; have HB := n0_; have BK305 := n1_; have GW305 := n2_; have GE305 := n3_; clear n0_ n1_ n2_ n3_; clear hb hbox hg) | ((with_reducible refine gate_dst (N := 2) rfl ?_); refine box_event ?hg (N := 2) ?hd (cs := #[.int .i64 0, .int .i64 0]) (t := 23) ?hr ?_; (case hd => rfl); (case hg => rfl); (case hr => first | (go_simp; done) | (go_simp; rfl)); intro gb306 hg w12 hbox hb; have n0_ := Aside0.mk (blk_below (g := gb305) (o := .cells #[.int .i64 a0_0, .int .i64 a0_1] 23 (0, 0)) (by (with_reducible repeat first | apply b1 | apply b2 | apply b3); exact BK305.out) hb); have n1_ := Aside0.mk (below_step (by repeat (first | (with_reducible first | exact HB.out | apply b4 | apply b5 | apply b6 | refine below_set ?_ GE305.out) | exact HB.out)) hb); have n2_ := Aside0.mk (hbox); have n3_ := Aside0.mk ((by rw [hg]; exact (below_size (by repeat (first | (with_reducible first | exact HB.out | apply b4 | apply b5 | apply b6 | refine below_set ?_ GE305.out) | exact HB.out))) : w.heap.size ≤ gb306)); have n4_ := Aside0.mk ((by rw [hg]; exact (below_size (by repeat (first | (with_reducible first | exact HB.out | apply b4 | apply b5 | apply b6 | refine below_set ?_ GE305.out) | exact HB.out))) : w.heap.size ≤ gb306)); have n5_ := Aside0.mk ((by rw [hg]; exact Nat.ne_of_lt (blk_lt (g := gb305) (o := .cells #[.int .i64 a0_0, .int .i64 a0_1] 23 (0, 0)) (by (with_reducible repeat first | apply b1 | apply b2 | apply b3); exact BK305.out)) : gb305 ≠ gb306)); have n6_ := Aside0.mk ((by rw [hg]; exact Nat.ne_of_gt (blk_lt (g := gb305) (o := .cells #[.int .i64 a0_0, .int .i64 a0_1] 23 (0, 0)) (by (with_reducible repeat first | apply b1 | apply b2 | apply b3); exact BK305.out)) : gb306 ≠ gb305)); clear BK305; clear HB; have BK305 := n0_; have HB := n1_; have BK306 := n2_; have GW306 := n3_; have GE306 := n4_; have NB305_306 := n5_; have NB306_305 := n6_; clear n0_ n1_ n2_ n3_ n4_ n5_ n6_; clear hb hbox hg; have hnb13 := NB305_306.out; have hnc13 := NB306_305.out; have hcz14_0 : w12.cell? ⟨gb305, 0, none⟩ = some (.int .i64 a0_0) := (blk_cell BK305.out 0).trans rfl; have hcz14_1 : w12.cell? ⟨gb305, 1, none⟩ = some (.int .i64 a0_1) := (blk_cell BK305.out 1).trans rfl; have hfz14_0 := blk_frozen BK305.out 0; have hfz14_1 := blk_frozen BK305.out 1) | ((with_reducible refine gate_callee (f := 16) rfl ?_); refine goesL_ (some 4) rfl rfl Tryd.func16 (by kernel_rfl) rfl #[.agg #[.int .i64 a0_0, .int .i64 a0_1]] rfl (by (try simp only [List.map_toArray, List.map_cons, List.map_nil]); first | done | rfl | (simp only [List.length_drop, List.length_take]; rfl)) ?_; (with_reducible refine (assessorref46_Valid.calls k a0_0 a0_1 false _ A2.out).mono ?_); rintro e w15 ⟨rfl, hb⟩; refine ⟨_, rfl, ?_⟩; have n0_ := Aside0.mk (blk_below (g := gb305) (o := .cells #[.int .i64 a0_0, .int .i64 a0_1] 23 (0, 0)) (by (with_reducible repeat first | apply b1 | apply b2 | apply b3); exact BK305.out) hb); have n1_ := Aside0.mk (blk_below (g := gb306) (o := .cells #[.int .i64 0, .int .i64 0] 23 (0, 0)) (by (with_reducible repeat first | apply b1 | apply b2 | apply b3); exact BK306.out) hb); have n2_ := Aside0.mk (below_step (by repeat (first | (with_reducible first | exact HB.out | apply b4 | apply b5 | apply b6 | refine below_set ?_ GE305.out | refine below_set ?_ GE306.out) | exact HB.out)) hb); clear BK305; clear BK306; clear HB; have BK305 := n0_; have BK306 := n1_; have HB := n2_; clear n0_ n1_ n2_; (try clear hb); (try clear hb2); (try clear hk); (try clear hi); have hcz16_0 : w15.cell? ⟨gb305, 0, none⟩ = some (.int .i64 a0_0) := (blk_cell BK305.out 0).trans rfl; have hcz16_1 : w15.cell? ⟨gb305, 1, none⟩ = some (.int .i64 a0_1) := (blk_cell BK305.out 1).trans rfl; have hfz16_0 := blk_frozen BK305.out 0; have hfz16_1 := blk_frozen BK305.out 1; have hcz17_0 : w15.cell? ⟨gb306, 0, none⟩ = some (.int .i64 0) := (blk_cell BK306.out 0).trans rfl; have hcz17_1 : w15.cell? ⟨gb306, 1, none⟩ = some (.int .i64 0) := (blk_cell BK306.out 1).trans rfl; have hfz17_0 := blk_frozen BK306.out 0; have hfz17_1 := blk_frozen BK306.out 1))
  refine bodyPost_ret (results_cell_row rfl _ _ gb306 23 #[.int .i64 a0_0, .int .i64 a0_1] (0, 0) _ rfl (by (with_reducible repeat first | apply b1 | apply b2 | apply b3); refine blk_put (cs := #[.int .i64 a0_0, .int .i64 0]) ?_ 1 _ rfl; (with_reducible repeat first | apply b1 | apply b2 | apply b3); refine blk_put (cs := #[.int .i64 0, .int .i64 0]) ?_ 0 _ rfl; (with_reducible repeat first | apply b1 | apply b2 | apply b3); exact BK306.out) Tryd.underlying23 rfl (by kernel_rfl)) rfl ?_
  exact ⟨by first | rfl | (simp [errW_none, errW_some] <;> rfl) | (simp [*, errW_none, errW_some] <;> rfl), by repeat (first | (with_reducible first | exact HB.out | apply b4 | apply b5 | apply b6 | refine below_set ?_ GE305.out | refine below_set ?_ GE306.out) | exact HB.out)⟩

end Go.Proofs.YtkfibjmjamdigaaDoor.Q

namespace Go.Proofs.YtkfibjmjamdigaaDoor.Q
open Go.RowKit Go.Proofs.YtkfibjmjamdigaaDoorW.PrintWords Go.Proofs.YtkfibjmjamdigaaDoorW.PrintLast Go.Proofs.YtkfibjmjamdigaaDoorW.PrintMore
attribute [local go_sem] max2_int min2_int max_two min_two max_three min_three max_four min_four   -- for this text's walks alone
set_option linter.unusedVariables false
set_option linter.unusedSimpArgs false


def assessorref46_Sub.f (k : Nat) (a0_0 : Int) (a0_1 : Int) (a1_0 : Int) (a1_1 : Int) : Option (Int × Int × Int) := (assessorref46_Negate.f k a1_0 a1_1).bind fun bt311 => ((assessorref46_Add.f k a0_0 a0_1 bt311.1 bt311.2).bind fun bt313 => (some (bt313.1, bt313.2.1, bt313.2.2)))
theorem assessorref46_Sub.mono : ∀ a0 a1 a2 a3 k, LeO (assessorref46_Sub.f k a0 a1 a2 a3) (assessorref46_Sub.f (k + 1) a0 a1 a2 a3) := by
 intro a0 a1 a2 a3 k
 unfold assessorref46_Sub.f
 repeat' first
   | (with_reducible exact assessorref46_Add.mono _ _ _ _ _)
   | (with_reducible exact assessorref46_Negate.mono _ _ _)
   | (with_reducible exact LeO.refl _)
   | (with_reducible exact LeO.none _)
   | (with_reducible refine LeO.ite ?_ ?_)
   | (with_reducible refine LeO.bind ?_ (fun _ => ?_))
   | exact assessorref46_Add.mono _ _ _ _ _
   | exact assessorref46_Negate.mono _ _ _
   | exact LeO.none _
   | refine LeO.ite ?_ ?_
   | refine LeO.bind ?_ (fun _ => ?_)
def assessorref46_Sub.T1 : Bool × List (List Nat × List Nat) := (true, [([], []), ([], []), ([1], [1]), ([0, 2, 2], [0, 2]), ([3], [3]), ([3], [3]), ([4, 3, 0, 1, 2, 3, 4, 5], [4]), ([5, 6, 0, 1, 2, 3, 4, 5, 6], [5])])
def assessorref46_Sub.B1 : List Nat := [0, 0, 2, 7, 15, 15, 63, 127]
theorem assessorref46_Sub.tab1 : rtab .any (opsOf Tryd.f29 1) = assessorref46_Sub.T1 := by kernel_rfl
theorem assessorref46_Sub.bits1 : waitsOk assessorref46_Sub.T1.2 assessorref46_Sub.B1 = true := by kernel_rfl
set_option maxHeartbeats 8000000 in
set_option maxRecDepth 100000 in
theorem assessorref46_Sub.calls (k : Nat) (a0_0 : Int) (a0_1 : Int) (a1_0 : Int) (a1_1 : Int) (r1 : Int) (r2 : Int) (r3 : Int) (w : World) (h : assessorref46_Sub.f k a0_0 a0_1 a1_0 a1_1 = some (r1, r2, r3)) :
  Calls Tryd.prog 29 #[.agg #[.int .i64 a0_0, .int .i64 a0_1], .agg #[.int .i64 a1_0, .int .i64 a1_1]] w fun e w' => e = .returned (.tuple #[.agg #[.int .i64 r1, .int .i64 r2], .int .i64 r3]) ∧ Below w.heap.size w w' := by
 have hu23 := Tryd.underlying23
 have HB := Aside0.mk (Below.refl w.heap.size w)
 have H : ((assessorref46_Negate.f k a1_0 a1_1).bind fun bt311 => ((assessorref46_Add.f k a0_0 a0_1 bt311.1 bt311.2).bind fun bt313 => (some (bt313.1, bt313.2.1, bt313.2.2)))) = some (r1, r2, r3) := h
 clear h
 replace H := Option.bind_eq_some_iff.mp H
 obtain ⟨⟨t311, t312⟩, A30, H⟩ := H
 replace H : ((assessorref46_Add.f k a0_0 a0_1 t311 t312).bind fun bt313 => (some (bt313.1, bt313.2.1, bt313.2.2))) = some (r1, r2, r3) := H
 have A3 := Aside0.mk A30
 clear A30
 replace H := Option.bind_eq_some_iff.mp H
 obtain ⟨⟨t313, t314, t315⟩, A40, H⟩ := H
 replace H : (some (t313, t314, t315)) = some (r1, r2, r3) := H
 have A4 := Aside0.mk A40
 clear A40
 simp only [Option.some.injEq, Prod.mk.injEq] at H
 obtain ⟨rfl, rfl, rfl⟩ := H
 go_enter Tryd.func29, Tryd.ntmps29
 try go_wp2_with (first | ((with_reducible refine gate_dst (N := 2) rfl ?_); refine box_event ?hg (N := 2) ?hd (cs := #[.int .i64 a0_0, .int .i64 a0_1]) (t := 23) ?hr ?_; (case hd => rfl); (case hg => rfl); (case hr => first | (go_simp; done) | (go_simp; rfl)); intro gb308 hg w5 hbox hb; have n0_ := Aside0.mk (below_step (by repeat (first | (with_reducible first | exact HB.out | apply b4 | apply b5 | apply b6) | exact HB.out)) hb); have n1_ := Aside0.mk (hbox); have n2_ := Aside0.mk ((by rw [hg]; exact (below_size (by repeat (first | (with_reducible first | exact HB.out | apply b4 | apply b5 | apply b6) | exact HB.out))) : w.heap.size ≤ gb308)); have n3_ := Aside0.mk ((by rw [hg]; exact (below_size (by repeat (first | (with_reducible first | exact HB.out | apply b4 | apply b5 | apply b6) | exact HB.out))) : w.heap.size ≤ gb308)); clear HB; have HB := n0_; have BK308 := n1_; have GW308 := n2_; have GE308 := n3_; clear n0_ n1_ n2_ n3_; clear hb hbox hg) | ((with_reducible refine gate_dst (N := 3) rfl ?_); refine box_event ?hg (N := 3) ?hd (cs := #[.int .i64 a1_0, .int .i64 a1_1]) (t := 23) ?hr ?_; (case hd => rfl); (case hg => rfl); (case hr => first | (go_simp; done) | (go_simp; rfl)); intro gb309 hg w6 hbox hb; have n0_ := Aside0.mk (blk_below (g := gb308) (o := .cells #[.int .i64 a0_0, .int .i64 a0_1] 23 (0, 0)) (by (with_reducible repeat first | apply b1 | apply b2 | apply b3); exact BK308.out) hb); have n1_ := Aside0.mk (below_step (by repeat (first | (with_reducible first | exact HB.out | apply b4 | apply b5 | apply b6 | refine below_set ?_ GE308.out) | exact HB.out)) hb); have n2_ := Aside0.mk (hbox); have n3_ := Aside0.mk ((by rw [hg]; exact (below_size (by repeat (first | (with_reducible first | exact HB.out | apply b4 | apply b5 | apply b6 | refine below_set ?_ GE308.out) | exact HB.out))) : w.heap.size ≤ gb309)); have n4_ := Aside0.mk ((by rw [hg]; exact (below_size (by repeat (first | (with_reducible first | exact HB.out | apply b4 | apply b5 | apply b6 | refine below_set ?_ GE308.out) | exact HB.out))) : w.heap.size ≤ gb309)); have n5_ := Aside0.mk ((by rw [hg]; exact Nat.ne_of_lt (blk_lt (g := gb308) (o := .cells #[.int .i64 a0_0, .int .i64 a0_1] 23 (0, 0)) (by (with_reducible repeat first | apply b1 | apply b2 | apply b3); exact BK308.out)) : gb308 ≠ gb309)); have n6_ := Aside0.mk ((by rw [hg]; exact Nat.ne_of_gt (blk_lt (g := gb308) (o := .cells #[.int .i64 a0_0, .int .i64 a0_1] 23 (0, 0)) (by (with_reducible repeat first | apply b1 | apply b2 | apply b3); exact BK308.out)) : gb309 ≠ gb308)); clear BK308; clear HB; have BK308 := n0_; have HB := n1_; have BK309 := n2_; have GW309 := n3_; have GE309 := n4_; have NB308_309 := n5_; have NB309_308 := n6_; clear n0_ n1_ n2_ n3_ n4_ n5_ n6_; clear hb hbox hg) | ((with_reducible refine gate_dst (N := 4) rfl ?_); refine box_event ?hg (N := 4) ?hd (cs := #[.int .i64 0, .int .i64 0]) (t := 23) ?hr ?_; (case hd => rfl); (case hg => rfl); (case hr => first | (go_simp; done) | (go_simp; rfl)); intro gb310 hg w7 hbox hb; have n0_ := Aside0.mk (blk_below (g := gb308) (o := .cells #[.int .i64 a0_0, .int .i64 a0_1] 23 (0, 0)) (by (with_reducible repeat first | apply b1 | apply b2 | apply b3); exact BK308.out) hb); have n1_ := Aside0.mk (blk_below (g := gb309) (o := .cells #[.int .i64 a1_0, .int .i64 a1_1] 23 (0, 0)) (by (with_reducible repeat first | apply b1 | apply b2 | apply b3); exact BK309.out) hb); have n2_ := Aside0.mk (below_step (by repeat (first | (with_reducible first | exact HB.out | apply b4 | apply b5 | apply b6 | refine below_set ?_ GE308.out | refine below_set ?_ GE309.out) | exact HB.out)) hb); have n3_ := Aside0.mk (hbox); have n4_ := Aside0.mk ((by rw [hg]; exact (below_size (by repeat (first | (with_reducible first | exact HB.out | apply b4 | apply b5 | apply b6 | refine below_set ?_ GE308.out | refine below_set ?_ GE309.out) | exact HB.out))) : w.heap.size ≤ gb310)); have n5_ := Aside0.mk ((by rw [hg]; exact (below_size (by repeat (first | (with_reducible first | exact HB.out | apply b4 | apply b5 | apply b6 | refine below_set ?_ GE308.out | refine below_set ?_ GE309.out) | exact HB.out))) : w.heap.size ≤ gb310)); have n6_ := Aside0.mk ((by rw [hg]; exact Nat.ne_of_lt (blk_lt (g := gb308) (o := .cells #[.int .i64 a0_0, .int .i64 a0_1] 23 (0, 0)) (by (with_reducible repeat first | apply b1 | apply b2 | apply b3); exact BK308.out)) : gb308 ≠ gb310)); have n7_ := Aside0.mk ((by rw [hg]; exact Nat.ne_of_gt (blk_lt (g := gb308) (o := .cells #[.int .i64 a0_0, .int .i64 a0_1] 23 (0, 0)) (by (with_reducible repeat first | apply b1 | apply b2 | apply b3); exact BK308.out)) : gb310 ≠ gb308)); have n8_ := Aside0.mk ((by rw [hg]; exact Nat.ne_of_lt (blk_lt (g := gb309) (o := .cells #[.int .i64 a1_0, .int .i64 a1_1] 23 (0, 0)) (by (with_reducible repeat first | apply b1 | apply b2 | apply b3); exact BK309.out)) : gb309 ≠ gb310)); have n9_ := Aside0.mk ((by rw [hg]; exact Nat.ne_of_gt (blk_lt (g := gb309) (o := .cells #[.int .i64 a1_0, .int .i64 a1_1] 23 (0, 0)) (by (with_reducible repeat first | apply b1 | apply b2 | apply b3); exact BK309.out)) : gb310 ≠ gb309)); clear BK308; clear BK309; clear HB; have BK308 := n0_; have BK309 := n1_; have HB := n2_; have BK310 := n3_; have GW310 := n4_; have GE310 := n5_; have NB308_310 := n6_; have NB310_308 := n7_; have NB309_310 := n8_; have NB310_309 := n9_; clear n0_ n1_ n2_ n3_ n4_ n5_ n6_ n7_ n8_ n9_; clear hb hbox hg))
 have n0_ := Aside0.mk (blk_drew BK308.out)
 have n1_ := Aside0.mk (blk_drew BK309.out)
 have n2_ := Aside0.mk (blk_drew BK310.out)
 have n3_ := Aside0.mk (below_drew1 HB.out)
 clear BK308
 clear BK309
 clear BK310
 clear HB
 have BK308 := n0_
 have BK309 := n1_
 have BK310 := n2_
 have HB := n3_
 clear n0_ n1_ n2_ n3_
 refine start_ (n := 8) (S := fun w' => w'.cell? ⟨gb308, 0, none⟩ = some (.int .i64 a0_0) ∧ w'.cell? ⟨gb308, 1, none⟩ = some (.int .i64 a0_1) ∧ w'.cell? ⟨gb309, 0, none⟩ = some (.int .i64 a1_0) ∧ w'.cell? ⟨gb309, 1, none⟩ = some (.int .i64 a1_1)) (ds := []) #[false, false, false, false, false, false, false, false] (by kernel_rfl) rfl rfl ⟨(blk_cell BK308.out 0).trans rfl, (blk_cell BK308.out 1).trans rfl, (blk_cell BK309.out 0).trans rfl, (blk_cell BK309.out 1).trans rfl⟩ (fun hHeld => ?_); refine with_tabW assessorref46_Sub.tab1 assessorref46_Sub.bits1 (fun HT_ HW_ => ?_)
 generalize w7.drew = w8 at BK308 BK309 BK310 HB hHeld ⊢
 refine take_ (i := 0) (N := some 6) (v := ?_) (a' := ?_) #[true, false, false, false, false, false, false, false] rfl rfl (take_ofW HT_.out HW_.out (by kernel_rfl)) (fun _ _ _ h => h) (Or.inl ⟨by rfl, ?_⟩) hHeld ?_ ?_
 rotate_left
 ·
  rintro w' ⟨s0, s1, s2, s3⟩
  go_simp
  with_reducible rfl
 rotate_left
 ·
  simp only [Act.put, List.setIfInBounds_toArray, List.set_cons_zero, List.set_cons_succ, i64_w, i32_w]
  rfl
 refine take_ (i := 1) (N := some 7) (v := ?_) (a' := ?_) #[true, true, false, false, false, false, false, false] rfl rfl (take_ofW HT_.out HW_.out (by kernel_rfl)) (fun _ _ _ h => h) (Or.inl ⟨by rfl, ?_⟩) hHeld ?_ ?_
 rotate_left
 ·
  rintro w' ⟨s0, s1, s2, s3⟩
  go_simp
  with_reducible rfl
 rotate_left
 ·
  simp only [Act.put, List.setIfInBounds_toArray, List.set_cons_zero, List.set_cons_succ, i64_w, i32_w]
  rfl
 refine one_ (i := 2) (N := some 8) #[true, true, true, false, false, false, false, false] rfl rfl (one_of HT_.out (by kernel_rfl)) (by decide) (fun K hK => ?_)
 refine goes_ Tryd.func58 (by kernel_rfl) rfl #[.agg #[.int .i64 a1_0, .int .i64 a1_1]] (by rfl) rfl rfl (by (try simp only [List.map_toArray, List.map_cons, List.map_nil]); first | done | rfl | (simp only [List.length_drop, List.length_take]; rfl)) ?_
 with_reducible refine (assessorref46_Negate.calls k a1_0 a1_1 t311 t312 _ A3.out).mono ?_
 rintro e w9 ⟨rfl, hb⟩
 refine ⟨_, rfl, ?_⟩
 have n0_ := Aside0.mk (blk_below (g := gb308) (o := .cells #[.int .i64 a0_0, .int .i64 a0_1] 23 (0, 0)) (by (with_reducible repeat first | apply b1 | apply b2 | apply b3); exact BK308.out) hb)
 have n1_ := Aside0.mk (blk_below (g := gb309) (o := .cells #[.int .i64 a1_0, .int .i64 a1_1] 23 (0, 0)) (by (with_reducible repeat first | apply b1 | apply b2 | apply b3); exact BK309.out) hb)
 have n2_ := Aside0.mk (blk_below (g := gb310) (o := .cells #[.int .i64 0, .int .i64 0] 23 (0, 0)) (by (with_reducible repeat first | apply b1 | apply b2 | apply b3); exact BK310.out) hb)
 have n3_ := Aside0.mk (below_step (by repeat (first | (with_reducible first | exact HB.out | apply b4 | apply b5 | apply b6 | refine below_set ?_ GE308.out | refine below_set ?_ GE309.out | refine below_set ?_ GE310.out) | exact HB.out)) hb)
 clear BK308
 clear BK309
 clear BK310
 clear HB
 have BK308 := n0_
 have BK309 := n1_
 have BK310 := n2_
 have HB := n3_
 clear n0_ n1_ n2_ n3_
 (try clear hb)
 (try clear hb2)
 (try clear hk)
 (try clear hi)
 refine hK.out _ _ ⟨(blk_cell BK308.out 0).trans rfl, (blk_cell BK308.out 1).trans rfl, (blk_cell BK309.out 0).trans rfl, (blk_cell BK309.out 1).trans rfl⟩ (fun hHeld => ?_)
 clear hK K
 refine norm_ (a' := ?_) ?_ ?_
 rotate_left
 ·
  show Act.put _ (some 8) _ = _
  simp only [Act.put, List.setIfInBounds_toArray, List.set_cons_zero, List.set_cons_succ, i64_w, i32_w]
  rfl
 refine one_ (i := 3) (N := some 9) #[true, true, true, true, false, false, false, false] rfl rfl (one_of HT_.out (by kernel_rfl)) (by decide) (fun K hK => ?_)
 refine goes_ Tryd.func28 (by kernel_rfl) rfl #[.agg #[.int .i64 a0_0, .int .i64 a0_1], .agg #[.int .i64 t311, .int .i64 t312]] (by rfl) rfl rfl (by (try simp only [List.map_toArray, List.map_cons, List.map_nil]); first | done | rfl | (simp only [List.length_drop, List.length_take]; rfl)) ?_
 with_reducible refine (assessorref46_Add.calls k a0_0 a0_1 t311 t312 t313 t314 t315 _ A4.out).mono ?_
 rintro e w10 ⟨rfl, hb⟩
 refine ⟨_, rfl, ?_⟩
 have n0_ := Aside0.mk (blk_below (g := gb308) (o := .cells #[.int .i64 a0_0, .int .i64 a0_1] 23 (0, 0)) (by (with_reducible repeat first | apply b1 | apply b2 | apply b3); exact BK308.out) hb)
 have n1_ := Aside0.mk (blk_below (g := gb309) (o := .cells #[.int .i64 a1_0, .int .i64 a1_1] 23 (0, 0)) (by (with_reducible repeat first | apply b1 | apply b2 | apply b3); exact BK309.out) hb)
 have n2_ := Aside0.mk (blk_below (g := gb310) (o := .cells #[.int .i64 0, .int .i64 0] 23 (0, 0)) (by (with_reducible repeat first | apply b1 | apply b2 | apply b3); exact BK310.out) hb)
 have n3_ := Aside0.mk (below_step (by repeat (first | (with_reducible first | exact HB.out | apply b4 | apply b5 | apply b6 | refine below_set ?_ GE308.out | refine below_set ?_ GE309.out | refine below_set ?_ GE310.out) | exact HB.out)) hb)
 clear BK308
 clear BK309
 clear BK310
 clear HB
 have BK308 := n0_
 have BK309 := n1_
 have BK310 := n2_
 have HB := n3_
 clear n0_ n1_ n2_ n3_
 (try clear hb)
 (try clear hb2)
 (try clear hk)
 (try clear hi)
 refine hK.out _ _ ⟨(blk_cell BK308.out 0).trans rfl, (blk_cell BK308.out 1).trans rfl, (blk_cell BK309.out 0).trans rfl, (blk_cell BK309.out 1).trans rfl⟩ (fun hHeld => ?_)
 clear hK K
 refine norm_ (a' := ?_) ?_ ?_
 rotate_left
 ·
  show Act.put _ (some 9) _ = _
  simp only [Act.put, List.setIfInBounds_toArray, List.set_cons_zero, List.set_cons_succ, i64_w, i32_w]
  rfl
 refine pure_ (i := 4) (N := some 10) (v := ?_) (a' := ?_) #[true, true, true, true, true, false, false, false] rfl rfl (any_of HT_.out (by kernel_rfl)) (fun _ _ _ h => h) (Or.inl ⟨by rfl, ?_⟩) ?_ ?_
 rotate_left
 ·
  intro w'
  go_simp
  with_reducible rfl
 rotate_left
 ·
  simp only [Act.put, List.setIfInBounds_toArray, List.set_cons_zero, List.set_cons_succ, i64_w, i32_w]
  rfl
 refine pure_ (i := 5) (N := some 11) (v := ?_) (a' := ?_) #[true, true, true, true, true, true, false, false] rfl rfl (any_of HT_.out (by kernel_rfl)) (fun _ _ _ h => h) (Or.inl ⟨by rfl, ?_⟩) ?_ ?_
 rotate_left
 ·
  intro w'
  go_simp
  with_reducible rfl
 rotate_left
 ·
  simp only [Act.put, List.setIfInBounds_toArray, List.set_cons_zero, List.set_cons_succ, i64_w, i32_w]
  rfl
 refine one_ (i := 6) (N := none) #[true, true, true, true, true, true, true, false] rfl rfl (one_of HT_.out (by kernel_rfl)) (by decide) (fun K hK => ?_)
 have hs11 : w10.cell? ⟨gb310, 0, none⟩ = some (.int .i64 0) := (blk_cell BK310.out 0).trans rfl
 have hfs11 := blk_frozen BK310.out 0
 have hns11_0 := NB308_310.out
 have hns11_1 := NB309_310.out
 have hms11_0 := NB310_308.out
 have hms11_1 := NB310_309.out
 have hs12 : w10.cell? ⟨gb310, 1, none⟩ = some (.int .i64 0) := (blk_cell BK310.out 1).trans rfl
 have hfs12 := blk_frozen BK310.out 1
 have hns12_0 := NB308_310.out
 have hns12_1 := NB309_310.out
 have hms12_0 := NB310_308.out
 have hms12_1 := NB310_309.out
 refine skip_ (w1 := ?_) (by rfl) rfl ?_ ?_
 rotate_left
 ·
  go_simp
  rfl
 refine hK.out _ _ ⟨((cell_far (p := ⟨gb310, _, none⟩) NB308_310.out _).trans (((cell_far (p := ⟨gb310, _, none⟩) NB308_310.out _).trans (hHeld.1)))), ((cell_far (p := ⟨gb310, _, none⟩) NB308_310.out _).trans (((cell_far (p := ⟨gb310, _, none⟩) NB308_310.out _).trans (hHeld.2.1)))), ((cell_far (p := ⟨gb310, _, none⟩) NB309_310.out _).trans (((cell_far (p := ⟨gb310, _, none⟩) NB309_310.out _).trans (hHeld.2.2.1)))), ((cell_far (p := ⟨gb310, _, none⟩) NB309_310.out _).trans (((cell_far (p := ⟨gb310, _, none⟩) NB309_310.out _).trans (hHeld.2.2.2))))⟩ (fun hHeld => ?_)
 clear hK K
 refine pure_ (i := 7) (N := some 5) (v := ?_) (a' := ?_) #[true, true, true, true, true, true, true, true] rfl rfl (any_of HT_.out (by kernel_rfl)) (fun _ _ _ h => h) (Or.inl ⟨by rfl, ?_⟩) ?_ ?_
 rotate_left
 ·
  intro w'
  go_simp
  with_reducible rfl
 rotate_left
 ·
  simp only [Act.put, List.setIfInBounds_toArray, List.set_cons_zero, List.set_cons_succ, i64_w, i32_w]
  rfl
 refine done_ (done_of HT_.out (by kernel_rfl)) ?_
 try go_wp2
 refine bodyPost_ret (results_ct rfl _ _ gb310 23 #[.int .i64 t313, .int .i64 t314] (0, 0) _ rfl (by (with_reducible repeat first | apply b1 | apply b2 | apply b3); refine blk_put (cs := #[.int .i64 t313, .int .i64 0]) ?_ 1 _ rfl; (with_reducible repeat first | apply b1 | apply b2 | apply b3); refine blk_put (cs := #[.int .i64 0, .int .i64 0]) ?_ 0 _ rfl; (with_reducible repeat first | apply b1 | apply b2 | apply b3); exact BK310.out) Tryd.underlying23 rfl (by kernel_rfl)) rfl ?_
 exact ⟨by first | rfl | (simp [errW_none, errW_some] <;> rfl) | (simp [*, errW_none, errW_some] <;> rfl), by repeat (first | (with_reducible first | exact HB.out | apply b4 | apply b5 | apply b6 | refine below_set ?_ GE308.out | refine below_set ?_ GE309.out | refine below_set ?_ GE310.out) | exact HB.out)⟩

end Go.Proofs.YtkfibjmjamdigaaDoor.Q

