/- Whatever the input: FractionResults returns true, and the input reads afterwards as it read before (the row lists three tables of the library; the card ties them to the program's text). No further condition. -/
import Derived.Lib.ItoaLen
import Derived.Deep.Slices
import Derived.Deep.Fields
import Derived.ChangeSame
import Derived.ShutString
import Derived.SizedLaws
import Derived.ChangeOld
import Derived.Below
import Derived.SevenTiedAt
import Derived.Test.YtkfibjmjamdigaaDoorMResults0
import Derived.Test.YtkfibjmjamdigaaDoorMResults2
import Derived.Test.YtkfibjmjamdigaaDoorMResults3
import Derived.Test.YtkfibjmjamdigaaDoorMResults4
import Derived.Test.YtkfibjmjamdigaaDoorMResults5
namespace Go.Proofs.YtkfibjmjamdigaaDoor.Q
open Go.RowKit Go.Proofs.YtkfibjmjamdigaaDoorW.PrintWords Go.Proofs.YtkfibjmjamdigaaDoorW.PrintLast Go.Proofs.YtkfibjmjamdigaaDoorW.PrintMore
attribute [local go_sem] max2_int min2_int max_two min_two max_three min_three max_four min_four   -- for this text's walks alone
set_option linter.unusedVariables false
set_option linter.unusedSimpArgs false


mutual
def assessorref46_Decimal.j0 : Nat → Bool → Int → Int → Option (ByteArray × Bool)
 | 0, _, _, _ => none
 | k + 1, x16, x151000, x151001 => if x16 = true then (some ((⟨#[]⟩ : ByteArray), false)) else ((assessorref46_signed.f x151000).bind fun bt152 => (if x151001 = 0 then (none) else ((assessorref46_Number.f k (wrap64 (Int.tdiv bt152.2 x151001))).bind fun t154 => (if bt152.1.size + t154.size ≤ 9223372036854775807 then (if (Int.tmod bt152.2 x151001) > 0 then (if (bt152.1 ++ t154).size + 1 ≤ 9223372036854775807 then (assessorref46_Decimal.j1 k ((bt152.1 ++ t154) ++ (⟨#[46]⟩ : ByteArray)) (Int.tmod bt152.2 x151001) x151000 x151001) else (none)) else (assessorref46_Decimal.j1 k (bt152.1 ++ t154) (Int.tmod bt152.2 x151001) x151000 x151001)) else (none)))))
def assessorref46_Decimal.j1 : Nat → ByteArray → Int → Int → Int → Option (ByteArray × Bool)
 | 0, _, _, _, _ => none
 | k + 1, x6, x7, x151000, x151001 => assessorref46_Decimal.l0 k x6 x7 x151000 x151001
def assessorref46_Decimal.l0 : Nat → ByteArray → Int → Int → Int → Option (ByteArray × Bool)
 | 0, _, _, _, _ => none
 | k + 1, x6, x7, x151000, x151001 => if x7 > 0 then (if x151001 = 0 then (none) else ((assessorref46_Number.f k (wrap64 (Int.tdiv (wrap64 (10 * x7)) x151001))).bind fun t155 => (if x6.size + t155.size ≤ 9223372036854775807 then (assessorref46_Decimal.l0 k (x6 ++ t155) (Int.tmod (wrap64 (10 * x7)) x151001) x151000 x151001) else (none)))) else (some (x6, true))
end
def assessorref46_Decimal.f (k : Nat) (a0_0 : Int) (a0_1 : Int) : Option (ByteArray × Bool) := (assessorref46_Valid.f k a0_0 a0_1).bind fun t151 => (if t151 = true then (if a0_1 = 0 then (none) else (assessorref46_Decimal.j0 k (((1000000 : Int) % a0_1) != 0) a0_0 a0_1)) else (assessorref46_Decimal.j0 k true a0_0 a0_1))
theorem assessorref46_Decimal.mono_l : ∀ k, (∀ y0 y1 y2, LeO (assessorref46_Decimal.j0 k y0 y1 y2) (assessorref46_Decimal.j0 (k + 1) y0 y1 y2)) ∧ (∀ y0 y1 y2 y3, LeO (assessorref46_Decimal.j1 k y0 y1 y2 y3) (assessorref46_Decimal.j1 (k + 1) y0 y1 y2 y3)) ∧ (∀ y0 y1 y2 y3, LeO (assessorref46_Decimal.l0 k y0 y1 y2 y3) (assessorref46_Decimal.l0 (k + 1) y0 y1 y2 y3))
 | 0 => ⟨fun _ _ _ r h => by simp [assessorref46_Decimal.j0] at h, fun _ _ _ _ r h => by simp [assessorref46_Decimal.j1] at h, fun _ _ _ _ r h => by simp [assessorref46_Decimal.l0] at h⟩
 | k + 1 => by
  obtain ⟨ih0, ih1, ih2⟩ := assessorref46_Decimal.mono_l k
  refine ⟨?_, ?_, ?_⟩
  ·
   intro y0 y1 y2
   unfold assessorref46_Decimal.j0
   repeat' first
   | (with_reducible exact ih0 _ _ _)
   | (with_reducible exact ih1 _ _ _ _)
   | (with_reducible exact ih2 _ _ _ _)
   | (with_reducible exact assessorref46_Number.mono _ _)
   | (with_reducible exact assessorref46_Valid.mono _ _ _)
   | (with_reducible exact LeO.refl _)
   | (with_reducible exact LeO.none _)
   | (with_reducible refine LeO.ite ?_ ?_)
   | (with_reducible refine LeO.bind ?_ (fun _ => ?_))
   | exact ih0 _ _ _
   | exact ih1 _ _ _ _
   | exact ih2 _ _ _ _
   | exact assessorref46_Number.mono _ _
   | exact assessorref46_Valid.mono _ _ _
   | exact LeO.none _
   | refine LeO.ite ?_ ?_
   | refine LeO.bind ?_ (fun _ => ?_)
  ·
   intro y0 y1 y2 y3
   unfold assessorref46_Decimal.j1
   repeat' first
   | (with_reducible exact ih0 _ _ _)
   | (with_reducible exact ih1 _ _ _ _)
   | (with_reducible exact ih2 _ _ _ _)
   | (with_reducible exact assessorref46_Number.mono _ _)
   | (with_reducible exact assessorref46_Valid.mono _ _ _)
   | (with_reducible exact LeO.refl _)
   | (with_reducible exact LeO.none _)
   | (with_reducible refine LeO.ite ?_ ?_)
   | (with_reducible refine LeO.bind ?_ (fun _ => ?_))
   | exact ih0 _ _ _
   | exact ih1 _ _ _ _
   | exact ih2 _ _ _ _
   | exact assessorref46_Number.mono _ _
   | exact assessorref46_Valid.mono _ _ _
   | exact LeO.none _
   | refine LeO.ite ?_ ?_
   | refine LeO.bind ?_ (fun _ => ?_)
  ·
   intro y0 y1 y2 y3
   unfold assessorref46_Decimal.l0
   repeat' first
   | (with_reducible exact ih0 _ _ _)
   | (with_reducible exact ih1 _ _ _ _)
   | (with_reducible exact ih2 _ _ _ _)
   | (with_reducible exact assessorref46_Number.mono _ _)
   | (with_reducible exact assessorref46_Valid.mono _ _ _)
   | (with_reducible exact LeO.refl _)
   | (with_reducible exact LeO.none _)
   | (with_reducible refine LeO.ite ?_ ?_)
   | (with_reducible refine LeO.bind ?_ (fun _ => ?_))
   | exact ih0 _ _ _
   | exact ih1 _ _ _ _
   | exact ih2 _ _ _ _
   | exact assessorref46_Number.mono _ _
   | exact assessorref46_Valid.mono _ _ _
   | exact LeO.none _
   | refine LeO.ite ?_ ?_
   | refine LeO.bind ?_ (fun _ => ?_)
theorem assessorref46_Decimal.mono : ∀ a0 a1 k, LeO (assessorref46_Decimal.f k a0 a1) (assessorref46_Decimal.f (k + 1) a0 a1) := by
 intro a0 a1 k
 obtain ⟨ih0, ih1, ih2⟩ := assessorref46_Decimal.mono_l k
 unfold assessorref46_Decimal.f
 repeat' first
   | (with_reducible exact ih0 _ _ _)
   | (with_reducible exact ih1 _ _ _ _)
   | (with_reducible exact ih2 _ _ _ _)
   | (with_reducible exact assessorref46_Number.mono _ _)
   | (with_reducible exact assessorref46_Valid.mono _ _ _)
   | (with_reducible exact LeO.refl _)
   | (with_reducible exact LeO.none _)
   | (with_reducible refine LeO.ite ?_ ?_)
   | (with_reducible refine LeO.bind ?_ (fun _ => ?_))
   | exact ih0 _ _ _
   | exact ih1 _ _ _ _
   | exact ih2 _ _ _ _
   | exact assessorref46_Number.mono _ _
   | exact assessorref46_Valid.mono _ _ _
   | exact LeO.none _
   | refine LeO.ite ?_ ?_
   | refine LeO.bind ?_ (fun _ => ?_)
def assessorref46_Decimal.T4 : Bool × List (List Nat × List Nat) := (true, [([], []), ([], []), ([], []), ([2], [2]), ([1, 3], [1, 3]), ([4], [4]), ([0, 5], [0, 5]), ([], []), ([], []), ([8], [8]), ([7, 9], [7, 9]), ([6, 5, 0, 1, 2, 3, 4, 5, 6], [6]), ([10, 11, 0, 1, 2, 3, 4, 5, 6, 7, 8, 9, 10, 11], [10])])
def assessorref46_Decimal.B4 : List Nat := [0, 0, 0, 4, 14, 30, 63, 0, 0, 256, 896, 127, 4095]
theorem assessorref46_Decimal.tab4 : rtab .any (opsOf Tryd.f14 4) = assessorref46_Decimal.T4 := by kernel_rfl
theorem assessorref46_Decimal.bits4 : waitsOk assessorref46_Decimal.T4.2 assessorref46_Decimal.B4 = true := by kernel_rfl
set_option maxHeartbeats 8000000 in
set_option maxRecDepth 100000 in
theorem assessorref46_Decimal.calls (k : Nat) (a0_0 : Int) (a0_1 : Int) (r1 : ByteArray) (r2 : Bool) (w : World) (h : assessorref46_Decimal.f k a0_0 a0_1 = some (r1, r2)) :
  Calls Tryd.prog 14 #[.agg #[.int .i64 a0_0, .int .i64 a0_1]] w fun e w' => e = .returned (.tuple #[.string r1, .bool r2]) ∧ Below w.heap.size w w' := by
 have hu23 := Tryd.underlying23
 have HB := Aside0.mk (Below.refl w.heap.size w)
 have H : ((assessorref46_Valid.f k a0_0 a0_1).bind fun t151 => (if t151 = true then (if a0_1 = 0 then (none) else (assessorref46_Decimal.j0 k (((1000000 : Int) % a0_1) != 0) a0_0 a0_1)) else (assessorref46_Decimal.j0 k true a0_0 a0_1))) = some (r1, r2) := h
 clear h
 have HC2 := Aside0.mk H
 clear H
 go_enter Tryd.func14, Tryd.ntmps14
 go_upto_region 1 with (first | ((with_reducible refine gate_dst (N := 1) rfl ?_); refine box_event ?hg (N := 1) ?hd (cs := #[.int .i64 a0_0, .int .i64 a0_1]) (t := 23) ?hr ?_; (case hd => rfl); (case hg => rfl); (case hr => first | (go_simp; done) | (go_simp; rfl)); intro gb150 hg w3 hbox hb; have n0_ := Aside0.mk (below_step (by repeat (first | (with_reducible first | exact HB.out | apply b4 | apply b5 | apply b6) | exact HB.out)) hb); have n1_ := Aside0.mk (hbox); have n2_ := Aside0.mk ((by rw [hg]; exact (below_size (by repeat (first | (with_reducible first | exact HB.out | apply b4 | apply b5 | apply b6) | exact HB.out))) : w.heap.size ≤ gb150)); have n3_ := Aside0.mk ((by rw [hg]; exact (below_size (by repeat (first | (with_reducible first | exact HB.out | apply b4 | apply b5 | apply b6) | exact HB.out))) : w.heap.size ≤ gb150)); clear HB; have HB := n0_; have BK150 := n1_; have GW150 := n2_; have GE150 := n3_; clear n0_ n1_ n2_ n3_; clear hb hbox hg))
 (try simp only [Act.put, List.setIfInBounds_toArray, List.set_cons_zero, List.set_cons_succ])
 go_cut [16] (fun v16 wc => ∃ (kq : Nat) (x16_1 : Bool), v16 = .bool x16_1 ∧ Aside0 (assessorref46_Decimal.j0 kq x16_1 a0_0 a0_1 = some (r1, r2)) ∧ Aside0 (kq ≤ k) ∧ Aside0 (wc.heap[gb150]? = some (.cells #[.int .i64 a0_0, .int .i64 a0_1] 23 (0, 0))) ∧ Aside0 (Below w.heap.size w wc))
 case first =>
  have H := HC2.out
  clear HC2
  replace H := Option.bind_eq_some_iff.mp H
  obtain ⟨t151, A40, H⟩ := H
  replace H : (if t151 = true then (if a0_1 = 0 then (none) else (assessorref46_Decimal.j0 k (((1000000 : Int) % a0_1) != 0) a0_0 a0_1)) else (assessorref46_Decimal.j0 k true a0_0 a0_1)) = some (r1, r2) := H
  have A4 := Aside0.mk A40
  clear A40
  by_cases c5 : t151 = true
  ·
   subst c5
   have H1 : (if a0_1 = 0 then (none) else (assessorref46_Decimal.j0 k (((1000000 : Int) % a0_1) != 0) a0_0 a0_1)) = some (r1, r2) := by rw [if_pos rfl] at H; exact H
   clear H
   have H := H1
   clear H1
   by_cases c6 : a0_1 = 0
   ·
    rw [if_pos c6] at H
    exact absurd H (by simp)
   ·
    rw [if_neg c6] at H
    have c6b0 : (a0_1 == 0) = false := beq_eq_false_iff_ne.mpr c6
    have c6b1 : (a0_1 != 0) = true := bne_iff_ne.mpr c6
    (first | rw [c6b0] | (simp only [i64_w, i32_w]; rw [c6b0]) | skip)
    have H' := Aside0.mk H
    clear H
    have hcz7_0 : w3.cell? ⟨gb150, 0, none⟩ = some (.int .i64 a0_0) := (blk_cell BK150.out 0).trans rfl
    have hcz7_1 : w3.cell? ⟨gb150, 1, none⟩ = some (.int .i64 a0_1) := (blk_cell BK150.out 1).trans rfl
    have hfz7_0 := blk_frozen BK150.out 0
    have hfz7_1 := blk_frozen BK150.out 1
    go_wp2_with (first | ((with_reducible refine gate_callee (f := 16) rfl ?_); refine goesL_ (some 9) rfl rfl Tryd.func16 (by kernel_rfl) rfl #[.agg #[.int .i64 a0_0, .int .i64 a0_1]] rfl (by (try simp only [List.map_toArray, List.map_cons, List.map_nil]); first | done | rfl | (simp only [List.length_drop, List.length_take]; rfl)) ?_; (with_reducible refine (assessorref46_Valid.calls k a0_0 a0_1 true _ A4.out).mono ?_); rintro e w8 ⟨rfl, hb⟩; refine ⟨_, rfl, ?_⟩; have n0_ := Aside0.mk (blk_below (g := gb150) (o := .cells #[.int .i64 a0_0, .int .i64 a0_1] 23 (0, 0)) (by (with_reducible repeat first | apply b1 | apply b2 | apply b3); exact BK150.out) hb); have n1_ := Aside0.mk (below_step (by repeat (first | (with_reducible first | exact HB.out | apply b4 | apply b5 | apply b6 | refine below_set ?_ GE150.out) | exact HB.out)) hb); clear BK150; clear HB; have BK150 := n0_; have HB := n1_; clear n0_ n1_; (try clear hb); (try clear hb2); (try clear hk); (try clear hi); have hcz9_0 : w8.cell? ⟨gb150, 0, none⟩ = some (.int .i64 a0_0) := (blk_cell BK150.out 0).trans rfl; have hcz9_1 : w8.cell? ⟨gb150, 1, none⟩ = some (.int .i64 a0_1) := (blk_cell BK150.out 1).trans rfl; have hfz9_0 := blk_frozen BK150.out 0; have hfz9_1 := blk_frozen BK150.out 1))
    go_meet
    case rel => exact ⟨_, ((((1000000 : Int) % a0_1) != 0)), (by first | rfl | (simp; done) | (simp [*]; done)), H', ⟨by first | omega | exact Nat.le_refl _⟩, ⟨by (with_reducible repeat first | apply b1 | apply b2 | apply b3); exact BK150.out⟩, ⟨by repeat (first | (with_reducible first | exact HB.out | apply b4 | apply b5 | apply b6 | refine below_set ?_ GE150.out) | exact HB.out)⟩⟩
  ·
   replace c5 := Bool.eq_false_iff.mpr c5
   subst c5
   have H1 : (assessorref46_Decimal.j0 k true a0_0 a0_1) = some (r1, r2) := by rw [if_neg (show ¬ (false = true) by decide)] at H; exact H
   clear H
   have H := H1
   clear H1
   have H' := Aside0.mk H
   clear H
   have hcz10_0 : w3.cell? ⟨gb150, 0, none⟩ = some (.int .i64 a0_0) := (blk_cell BK150.out 0).trans rfl
   have hcz10_1 : w3.cell? ⟨gb150, 1, none⟩ = some (.int .i64 a0_1) := (blk_cell BK150.out 1).trans rfl
   have hfz10_0 := blk_frozen BK150.out 0
   have hfz10_1 := blk_frozen BK150.out 1
   go_wp2_with (first | ((with_reducible refine gate_callee (f := 16) rfl ?_); refine goesL_ (some 9) rfl rfl Tryd.func16 (by kernel_rfl) rfl #[.agg #[.int .i64 a0_0, .int .i64 a0_1]] rfl (by (try simp only [List.map_toArray, List.map_cons, List.map_nil]); first | done | rfl | (simp only [List.length_drop, List.length_take]; rfl)) ?_; (with_reducible refine (assessorref46_Valid.calls k a0_0 a0_1 false _ A4.out).mono ?_); rintro e w11 ⟨rfl, hb⟩; refine ⟨_, rfl, ?_⟩; have n0_ := Aside0.mk (blk_below (g := gb150) (o := .cells #[.int .i64 a0_0, .int .i64 a0_1] 23 (0, 0)) (by (with_reducible repeat first | apply b1 | apply b2 | apply b3); exact BK150.out) hb); have n1_ := Aside0.mk (below_step (by repeat (first | (with_reducible first | exact HB.out | apply b4 | apply b5 | apply b6 | refine below_set ?_ GE150.out) | exact HB.out)) hb); clear BK150; clear HB; have BK150 := n0_; have HB := n1_; clear n0_ n1_; (try clear hb); (try clear hb2); (try clear hk); (try clear hi)))
   go_meet
   case rel => exact ⟨_, (true), (by first | rfl | (simp; done) | (simp [*]; done)), H', ⟨by first | omega | exact Nat.le_refl _⟩, ⟨by (with_reducible repeat first | apply b1 | apply b2 | apply b3); exact BK150.out⟩, ⟨by repeat (first | (with_reducible first | exact HB.out | apply b4 | apply b5 | apply b6 | refine below_set ?_ GE150.out) | exact HB.out)⟩⟩
 case rest =>
  clear HC2
  try clear c1
  try clear p2
  try clear c5
  try clear c6
  try clear c6b0
  try clear c6b1
  try clear hcz10_0
  try clear hcz10_1
  try clear hcz7_0
  try clear hcz7_1
  try clear hcz9_0
  try clear hcz9_1
  try clear hfz10_0
  try clear hfz10_1
  try clear hfz7_0
  try clear hfz7_1
  try clear hfz9_0
  try clear hfz9_1
  obtain ⟨kq, x16_1, rfl, HA, HJ1, BK150, HB⟩ := hcut
  cases kq with
  | zero => exact absurd HA.out (by simp [assessorref46_Decimal.j0])
  | succ kj1 =>
   have H := HA.out
   clear HA
   simp only [assessorref46_Decimal.j0] at H
   by_cases c12 : x16_1 = true
   ·
    subst c12
    have H1 : (some ((⟨#[]⟩ : ByteArray), false)) = some (r1, r2) := by rw [if_pos rfl] at H; exact H
    clear H
    have H := H1
    clear H1
    simp only [Option.some.injEq, Prod.mk.injEq] at H
    obtain ⟨rfl, rfl⟩ := H
    go_wp2
    go_ret2
    exact ⟨by first | rfl | (simp [errW_none, errW_some] <;> rfl) | (simp [*, errW_none, errW_some] <;> rfl), by repeat (first | (with_reducible first | exact HB.out | apply b4 | apply b5 | apply b6 | refine below_set ?_ GE150.out) | exact HB.out)⟩
   ·
    replace c12 := Bool.eq_false_iff.mpr c12
    subst c12
    have H1 : ((assessorref46_signed.f a0_0).bind fun bt152 => (if a0_1 = 0 then (none) else ((assessorref46_Number.f kj1 (wrap64 (Int.tdiv bt152.2 a0_1))).bind fun t154 => (if bt152.1.size + t154.size ≤ 9223372036854775807 then (if (Int.tmod bt152.2 a0_1) > 0 then (if (bt152.1 ++ t154).size + 1 ≤ 9223372036854775807 then (assessorref46_Decimal.j1 kj1 ((bt152.1 ++ t154) ++ (⟨#[46]⟩ : ByteArray)) (Int.tmod bt152.2 a0_1) a0_0 a0_1) else (none)) else (assessorref46_Decimal.j1 kj1 (bt152.1 ++ t154) (Int.tmod bt152.2 a0_1) a0_0 a0_1)) else (none))))) = some (r1, r2) := by rw [if_neg (show ¬ (false = true) by decide)] at H; exact H
    clear H
    have H := H1
    clear H1
    replace H := Option.bind_eq_some_iff.mp H
    obtain ⟨⟨t152, t153⟩, A130, H⟩ := H
    replace H : (if a0_1 = 0 then (none) else ((assessorref46_Number.f kj1 (wrap64 (Int.tdiv t153 a0_1))).bind fun t154 => (if t152.size + t154.size ≤ 9223372036854775807 then (if (Int.tmod t153 a0_1) > 0 then (if (t152 ++ t154).size + 1 ≤ 9223372036854775807 then (assessorref46_Decimal.j1 kj1 ((t152 ++ t154) ++ (⟨#[46]⟩ : ByteArray)) (Int.tmod t153 a0_1) a0_0 a0_1) else (none)) else (assessorref46_Decimal.j1 kj1 (t152 ++ t154) (Int.tmod t153 a0_1) a0_0 a0_1)) else (none)))) = some (r1, r2) := H
    have A13 := Aside0.mk A130
    clear A130
    by_cases c14 : a0_1 = 0
    ·
     rw [if_pos c14] at H
     exact absurd H (by simp)
    ·
     rw [if_neg c14] at H
     have c14b0 : (a0_1 == 0) = false := beq_eq_false_iff_ne.mpr c14
     have c14b1 : (a0_1 != 0) = true := bne_iff_ne.mpr c14
     replace H := Option.bind_eq_some_iff.mp H
     obtain ⟨t154, A150, H⟩ := H
     replace H : (if t152.size + t154.size ≤ 9223372036854775807 then (if (Int.tmod t153 a0_1) > 0 then (if (t152 ++ t154).size + 1 ≤ 9223372036854775807 then (assessorref46_Decimal.j1 kj1 ((t152 ++ t154) ++ (⟨#[46]⟩ : ByteArray)) (Int.tmod t153 a0_1) a0_0 a0_1) else (none)) else (assessorref46_Decimal.j1 kj1 (t152 ++ t154) (Int.tmod t153 a0_1) a0_0 a0_1)) else (none)) = some (r1, r2) := H
     have A15 := Aside0.mk A150
     clear A150
     by_cases c16 : t152.size + t154.size ≤ 9223372036854775807
     ·
      rw [if_pos c16] at H
      have c16b0 := eq_true c16
      have c16b1 : decide (t152.size + t154.size ≤ 9223372036854775807) = true := decide_eq_true c16
      try have c16b2 : (9223372036854775807 < t152.size + t154.size) = False := eq_false (Nat.not_lt.2 c16)
      have HC17 := Aside0.mk H
      clear H
      have hcz18_0 : wc.cell? ⟨gb150, 0, none⟩ = some (.int .i64 a0_0) := (blk_cell BK150.out 0).trans rfl
      have hcz18_1 : wc.cell? ⟨gb150, 1, none⟩ = some (.int .i64 a0_1) := (blk_cell BK150.out 1).trans rfl
      have hfz18_0 := blk_frozen BK150.out 0
      have hfz18_1 := blk_frozen BK150.out 1
      try go_wp2_with (first | ((with_reducible refine gate_callee (f := 46) rfl ?_); refine goesL_ (some 20) rfl rfl Tryd.func46 (by kernel_rfl) rfl #[.int .i64 a0_0] rfl (by (try simp only [List.map_toArray, List.map_cons, List.map_nil]); first | done | rfl | (simp only [List.length_drop, List.length_take]; rfl)) ?_; (with_reducible refine (assessorref46_signed.calls a0_0 t152 t153 _ A13.out).mono ?_); rintro e w' ⟨rfl, ⟨nd, rfl⟩⟩; refine ⟨_, rfl, ?_⟩))
      (try (rw [drewN_self wc]; generalize hq_ : World.drewN wc _ = wc; have n0_ : Aside0 (wc.heap[gb150]? = some (.cells #[.int .i64 a0_0, .int .i64 a0_1] 23 (0, 0))) := ⟨by rw [← hq_]; exact (by (with_reducible repeat first | apply b1 | apply b2 | apply b3); exact BK150.out)⟩; have n1_ : Aside0 (Below w.heap.size w wc) := ⟨by rw [← hq_]; exact (by repeat (first | (with_reducible first | exact HB.out | apply b4 | apply b5 | apply b6 | refine below_set ?_ GE150.out) | exact HB.out))⟩; clear BK150 HB hq_; have BK150 := n0_; have HB := n1_; clear n0_ n1_))
      have n0_ := Aside0.mk (blk_drew BK150.out)
      have n1_ := Aside0.mk (below_drew1 HB.out)
      clear BK150
      clear HB
      have BK150 := n0_
      have HB := n1_
      clear n0_ n1_
      refine start_ (n := 13) (S := fun w' => w'.cell? ⟨gb150, 0, none⟩ = some (.int .i64 a0_0) ∧ w'.cell? ⟨gb150, 1, none⟩ = some (.int .i64 a0_1)) (ds := []) #[false, false, false, false, false, false, false, false, false, false, false, false, false] (by kernel_rfl) rfl rfl ⟨(blk_cell BK150.out 0).trans rfl, (blk_cell BK150.out 1).trans rfl⟩ (fun hHeld => ?_); refine with_tabW assessorref46_Decimal.tab4 assessorref46_Decimal.bits4 (fun HT_ HW_ => ?_)
      generalize wc.drew = w19 at BK150 HB hHeld ⊢
      refine pure_ (i := 0) (N := some 23) (v := ?_) (a' := ?_) #[true, false, false, false, false, false, false, false, false, false, false, false, false] rfl rfl (any_of HT_.out (by kernel_rfl)) (fun _ _ _ h => h) (Or.inl ⟨by rfl, ?_⟩) ?_ ?_
      rotate_left
      ·
       intro w'
       go_simp
       with_reducible rfl
      rotate_left
      ·
       simp only [Act.put, List.setIfInBounds_toArray, List.set_cons_zero, List.set_cons_succ, i64_w, i32_w]
       rfl
      refine pure_ (i := 1) (N := some 24) (v := ?_) (a' := ?_) #[true, true, false, false, false, false, false, false, false, false, false, false, false] rfl rfl (any_of HT_.out (by kernel_rfl)) (fun _ _ _ h => h) (Or.inl ⟨by rfl, ?_⟩) ?_ ?_
      rotate_left
      ·
       intro w'
       go_simp
       with_reducible rfl
      rotate_left
      ·
       simp only [Act.put, List.setIfInBounds_toArray, List.set_cons_zero, List.set_cons_succ, i64_w, i32_w]
       rfl
      refine pure_ (i := 2) (N := some 25) (v := ?_) (a' := ?_) #[true, true, true, false, false, false, false, false, false, false, false, false, false] rfl rfl (any_of HT_.out (by kernel_rfl)) (fun _ _ _ h => h) (Or.inl ⟨by rfl, ?_⟩) ?_ ?_
      rotate_left
      ·
       intro w'
       go_simp
       with_reducible rfl
      rotate_left
      ·
       simp only [Act.put, List.setIfInBounds_toArray, List.set_cons_zero, List.set_cons_succ, i64_w, i32_w]
       rfl
      refine pure_ (i := 7) (N := some 30) (v := ?_) (a' := ?_) #[true, true, true, false, false, false, false, true, false, false, false, false, false] rfl rfl (any_of HT_.out (by kernel_rfl)) (fun _ _ _ h => h) (Or.inl ⟨by rfl, ?_⟩) ?_ ?_
      rotate_left
      ·
       intro w'
       go_simp
       with_reducible rfl
      rotate_left
      ·
       simp only [Act.put, List.setIfInBounds_toArray, List.set_cons_zero, List.set_cons_succ, i64_w, i32_w]
       rfl
      refine pure_ (i := 8) (N := some 31) (v := ?_) (a' := ?_) #[true, true, true, false, false, false, false, true, true, false, false, false, false] rfl rfl (any_of HT_.out (by kernel_rfl)) (fun _ _ _ h => h) (Or.inl ⟨by rfl, ?_⟩) ?_ ?_
      rotate_left
      ·
       intro w'
       go_simp
       with_reducible rfl
      rotate_left
      ·
       simp only [Act.put, List.setIfInBounds_toArray, List.set_cons_zero, List.set_cons_succ, i64_w, i32_w]
       rfl
      refine take_ (i := 3) (N := some 26) (v := ?_) (a' := ?_) #[true, true, true, true, false, false, false, true, true, false, false, false, false] rfl rfl (take_ofW HT_.out HW_.out (by kernel_rfl)) (fun _ _ _ h => h) (Or.inl ⟨by rfl, ?_⟩) hHeld ?_ ?_
      rotate_left
      ·
       rintro w' ⟨s0, s1⟩
       go_simp
       with_reducible rfl
      rotate_left
      ·
       simp only [Act.put, List.setIfInBounds_toArray, List.set_cons_zero, List.set_cons_succ, i64_w, i32_w]
       rfl
      refine pure_ (i := 4) (N := some 27) (v := ?_) (a' := ?_) #[true, true, true, true, true, false, false, true, true, false, false, false, false] rfl rfl (any_of HT_.out (by kernel_rfl)) (fun _ _ _ h => h) (Or.inl ⟨by rfl, ?_⟩) ?_ ?_
      rotate_left
      ·
       intro w'
       go_simp
       with_reducible rfl
      rotate_left
      ·
       simp only [Act.put, List.setIfInBounds_toArray, List.set_cons_zero, List.set_cons_succ, i64_w, i32_w]
       rfl
      refine take_ (i := 9) (N := some 32) (v := ?_) (a' := ?_) #[true, true, true, true, true, false, false, true, true, true, false, false, false] rfl rfl (take_ofW HT_.out HW_.out (by kernel_rfl)) (fun _ _ _ h => h) (Or.inl ⟨by rfl, ?_⟩) hHeld ?_ ?_
      rotate_left
      ·
       rintro w' ⟨s0, s1⟩
       go_simp
       with_reducible rfl
      rotate_left
      ·
       simp only [Act.put, List.setIfInBounds_toArray, List.set_cons_zero, List.set_cons_succ, i64_w, i32_w]
       rfl
      refine pure_ (i := 10) (N := some 33) (v := ?_) (a' := ?_) #[true, true, true, true, true, false, false, true, true, true, true, false, false] rfl rfl (any_of HT_.out (by kernel_rfl)) (fun _ _ _ h => h) (Or.inl ⟨by rfl, ?_⟩) ?_ ?_
      rotate_left
      ·
       intro w'
       go_simp
       with_reducible rfl
      rotate_left
      ·
       simp only [Act.put, List.setIfInBounds_toArray, List.set_cons_zero, List.set_cons_succ, i64_w, i32_w]
       rfl
      refine one_ (i := 5) (N := some 28) #[true, true, true, true, true, true, false, true, true, true, true, false, false] rfl rfl (one_of HT_.out (by kernel_rfl)) (by decide) (fun K hK => ?_)
      refine goes_ Tryd.func47 (by kernel_rfl) rfl #[.int .i64 (wrap64 (Int.tdiv t153 a0_1))] (by rfl) rfl rfl (by (try simp only [List.map_toArray, List.map_cons, List.map_nil]); first | done | rfl | (simp only [List.length_drop, List.length_take]; rfl)) ?_
      with_reducible refine (assessorref46_Number.calls kj1 (wrap64 (Int.tdiv t153 a0_1)) t154 _ A15.out).mono ?_
      rintro e w20 ⟨rfl, hb⟩
      refine ⟨_, rfl, ?_⟩
      have n0_ := Aside0.mk (blk_below (g := gb150) (o := .cells #[.int .i64 a0_0, .int .i64 a0_1] 23 (0, 0)) (by (with_reducible repeat first | apply b1 | apply b2 | apply b3); exact BK150.out) hb)
      have n1_ := Aside0.mk (below_step (by repeat (first | (with_reducible first | exact HB.out | apply b4 | apply b5 | apply b6 | refine below_set ?_ GE150.out) | exact HB.out)) hb)
      clear BK150
      clear HB
      have BK150 := n0_
      have HB := n1_
      clear n0_ n1_
      (try clear hb)
      (try clear hb2)
      (try clear hk)
      (try clear hi)
      refine hK.out _ _ ⟨(blk_cell BK150.out 0).trans rfl, (blk_cell BK150.out 1).trans rfl⟩ (fun hHeld => ?_)
      clear hK K
      refine norm_ (a' := ?_) ?_ ?_
      rotate_left
      ·
       show Act.put _ (some 28) _ = _
       simp only [Act.put, List.setIfInBounds_toArray, List.set_cons_zero, List.set_cons_succ, i64_w, i32_w]
       rfl
      refine pure_ (i := 6) (N := some 29) (v := ?_) (a' := ?_) #[true, true, true, true, true, true, true, true, true, true, true, false, false] rfl rfl (any_of HT_.out (by kernel_rfl)) (fun _ _ _ h => h) (Or.inl ⟨by rfl, ?_⟩) ?_ ?_
      rotate_left
      ·
       intro w'
       go_simp
       with_reducible rfl
      rotate_left
      ·
       simp only [Act.put, List.setIfInBounds_toArray, List.set_cons_zero, List.set_cons_succ, i64_w, i32_w]
       rfl
      refine pure_ (i := 11) (N := some 6) (v := ?_) (a' := ?_) #[true, true, true, true, true, true, true, true, true, true, true, true, false] rfl rfl (any_of HT_.out (by kernel_rfl)) (fun _ _ _ h => h) (Or.inl ⟨by rfl, ?_⟩) ?_ ?_
      rotate_left
      ·
       intro w'
       go_simp
       with_reducible rfl
      rotate_left
      ·
       simp only [Act.put, List.setIfInBounds_toArray, List.set_cons_zero, List.set_cons_succ, i64_w, i32_w]
       rfl
      refine pure_ (i := 12) (N := some 7) (v := ?_) (a' := ?_) #[true, true, true, true, true, true, true, true, true, true, true, true, true] rfl rfl (any_of HT_.out (by kernel_rfl)) (fun _ _ _ h => h) (Or.inl ⟨by rfl, ?_⟩) ?_ ?_
      rotate_left
      ·
       intro w'
       go_simp
       with_reducible rfl
      rotate_left
      ·
       simp only [Act.put, List.setIfInBounds_toArray, List.set_cons_zero, List.set_cons_succ, i64_w, i32_w]
       rfl
      refine done_ (done_of HT_.out (by kernel_rfl)) ?_
      go_upto_if 35 with (fail)
      go_cut [6] (fun v6 wc => ∃ (kq : Nat) (x6_16 : ByteArray), v6 = .string x6_16 ∧ Aside0 (assessorref46_Decimal.j1 kq x6_16 (Int.tmod t153 a0_1) a0_0 a0_1 = some (r1, r2)) ∧ Aside0 (kq ≤ kj1) ∧ Aside0 (wc.heap[gb150]? = some (.cells #[.int .i64 a0_0, .int .i64 a0_1] 23 (0, 0))) ∧ Aside0 (Below w.heap.size w wc))
      case first =>
       have H := HC17.out
       clear HC17
       by_cases c21 : (Int.tmod t153 a0_1) > 0
       ·
        rw [if_pos c21] at H
        have c21b0 : decide (0 < (Int.tmod t153 a0_1)) = true := decide_eq_true c21
        clear c21
        (first | rw [c21b0] | (simp only [i64_w, i32_w]; rw [c21b0]) | skip)
        by_cases c22 : (t152 ++ t154).size + 1 ≤ 9223372036854775807
        ·
         rw [if_pos c22] at H
         have c22b0 := eq_true c22
         have c22b1 : decide ((t152 ++ t154).size + 1 ≤ 9223372036854775807) = true := decide_eq_true c22
         have c22b4 : t152.size + t154.size + 1 ≤ 9223372036854775807 := by have z_ := c22; (try simp only [ByteArray.size_append] at z_); exact z_
         have c22b5 : (9223372036854775807 < t152.size + t154.size + 1) = False := eq_false (Nat.not_lt.2 c22b4)
         try have c22b2 : (9223372036854775807 < (t152 ++ t154).size + 1) = False := eq_false (Nat.not_lt.2 c22)
         have H' := Aside0.mk H
         clear H
         go_wp2
         go_meet
         case rel => exact ⟨_, ((t152 ++ t154) ++ (⟨#[46]⟩ : ByteArray)), (by first | rfl | (simp; done) | (simp [*]; done)), H', ⟨by have := HJ1.out; first | omega | exact Nat.le_refl _⟩, ⟨by (with_reducible repeat first | apply b1 | apply b2 | apply b3); exact BK150.out⟩, ⟨by repeat (first | (with_reducible first | exact HB.out | apply b4 | apply b5 | apply b6 | refine below_set ?_ GE150.out) | exact HB.out)⟩⟩
        ·
         rw [if_neg c22] at H
         exact absurd H (by simp)
       ·
        rw [if_neg c21] at H
        have c21b0 : decide (0 < (Int.tmod t153 a0_1)) = false := decide_eq_false c21
        clear c21
        (first | rw [c21b0] | (simp only [i64_w, i32_w]; rw [c21b0]) | skip)
        have H' := Aside0.mk H
        clear H
        go_wp2
        go_meet
        case rel => exact ⟨_, (t152 ++ t154), (by first | rfl | (simp; done) | (simp [*]; done)), H', ⟨by have := HJ1.out; first | omega | exact Nat.le_refl _⟩, ⟨by (with_reducible repeat first | apply b1 | apply b2 | apply b3); exact BK150.out⟩, ⟨by repeat (first | (with_reducible first | exact HB.out | apply b4 | apply b5 | apply b6 | refine below_set ?_ GE150.out) | exact HB.out)⟩⟩
      case rest =>
       clear HC17
       try clear c1
       try clear c2
       try clear p2
       try clear c4
       try clear c5
       try clear c6
       try clear c6b0
       try clear c6b1
       try clear p6
       try clear c12
       try clear c14
       try clear c14b0
       try clear c14b1
       try clear c16
       try clear c16b0
       try clear c16b1
       try clear c16b2
       try clear c21
       try clear c21b0
       try clear c22
       try clear c22b0
       try clear c22b1
       try clear c22b2
       try clear hcz10_0
       try clear hcz10_1
       try clear hcz18_0
       try clear hcz18_1
       try clear hcz7_0
       try clear hcz7_1
       try clear hcz9_0
       try clear hcz9_1
       try clear hfz10_0
       try clear hfz10_1
       try clear hfz18_0
       try clear hfz18_1
       try clear hfz7_0
       try clear hfz7_1
       try clear hfz9_0
       try clear hfz9_1
       try clear p2
       obtain ⟨kq, x6_16, rfl, HA, HJ16, BK150, HB⟩ := hcut
       cases kq with
       | zero => exact absurd HA.out (by simp [assessorref46_Decimal.j1])
       | succ kj16 =>
        have H := HA.out
        clear HA
        simp only [assessorref46_Decimal.j1] at H
        have H' := Aside0.mk H
        clear H
        go_wp2
        go_loopg [6, 7] kj16 (fun kq v6 v7 w' => ∃ (x6_3 : ByteArray) (x7_3 : Int), v6 = .string x6_3 ∧ v7 = .int .i64 x7_3 ∧ Aside0 (assessorref46_Decimal.l0 kq x6_3 x7_3 a0_0 a0_1 = some (r1, r2)) ∧ Aside0 (kq ≤ kj16) ∧ Aside0 (w'.heap[gb150]? = some (.cells #[.int .i64 a0_0, .int .i64 a0_1] 23 (0, 0))) ∧ Aside0 (Below w.heap.size w w'))
        case atStart => exact ⟨(x6_16), ((Int.tmod t153 a0_1)), (by first | rfl | (simp; done) | (simp [*]; done)), (by first | rfl | (simp; done) | (simp [*]; done)), H', ⟨Nat.le_refl _⟩, ⟨by (with_reducible repeat first | apply b1 | apply b2 | apply b3); exact BK150.out⟩, ⟨by repeat (first | (with_reducible first | exact HB.out | apply b4 | apply b5 | apply b6 | refine below_set ?_ GE150.out) | exact HB.out)⟩⟩
        case round =>
         clear H'
         try clear c1
         try clear c2
         try clear p2
         try clear c4
         try clear c5
         try clear c6
         try clear c6b0
         try clear c6b1
         try clear p6
         try clear c12
         try clear c14
         try clear c14b0
         try clear c14b1
         try clear c16
         try clear c16b0
         try clear c16b1
         try clear c16b2
         try clear c21
         try clear c21b0
         try clear c22
         try clear c22b0
         try clear c22b1
         try clear c22b2
         try clear hcz10_0
         try clear hcz10_1
         try clear hcz18_0
         try clear hcz18_1
         try clear hcz7_0
         try clear hcz7_1
         try clear hcz9_0
         try clear hcz9_1
         try clear hfz10_0
         try clear hfz10_1
         try clear hfz18_0
         try clear hfz18_1
         try clear hfz7_0
         try clear hfz7_1
         try clear hfz9_0
         try clear hfz9_1
         try clear p2
         try clear p6
         obtain ⟨x6_3, x7_3, rfl, rfl, HA, HK3, BK150, HB⟩ := hrel
         cases gk with
         | zero => exact absurd HA.out (by simp [assessorref46_Decimal.l0])
         | succ k3 =>
          have H := HA.out
          clear HA
          simp only [assessorref46_Decimal.l0] at H
          by_cases c23 : x7_3 > 0
          ·
           rw [if_pos c23] at H
           have c23b0 : decide (0 < x7_3) = true := decide_eq_true c23
           clear c23
           by_cases c24 : a0_1 = 0
           ·
            rw [if_pos c24] at H
            exact absurd H (by simp)
           ·
            rw [if_neg c24] at H
            have c24b0 : (a0_1 == 0) = false := beq_eq_false_iff_ne.mpr c24
            have c24b1 : (a0_1 != 0) = true := bne_iff_ne.mpr c24
            replace H := Option.bind_eq_some_iff.mp H
            obtain ⟨t155, A250, H⟩ := H
            replace H : (if x6_3.size + t155.size ≤ 9223372036854775807 then (assessorref46_Decimal.l0 k3 (x6_3 ++ t155) (Int.tmod (wrap64 (10 * x7_3)) a0_1) a0_0 a0_1) else (none)) = some (r1, r2) := H
            have A25 := Aside0.mk A250
            clear A250
            by_cases c26 : x6_3.size + t155.size ≤ 9223372036854775807
            ·
             rw [if_pos c26] at H
             have c26b0 := eq_true c26
             have c26b1 : decide (x6_3.size + t155.size ≤ 9223372036854775807) = true := decide_eq_true c26
             try have c26b2 : (9223372036854775807 < x6_3.size + t155.size) = False := eq_false (Nat.not_lt.2 c26)
             have H' := Aside0.mk H
             clear H
             have hcz27_0 : wr.cell? ⟨gb150, 0, none⟩ = some (.int .i64 a0_0) := (blk_cell BK150.out 0).trans rfl
             have hcz27_1 : wr.cell? ⟨gb150, 1, none⟩ = some (.int .i64 a0_1) := (blk_cell BK150.out 1).trans rfl
             have hfz27_0 := blk_frozen BK150.out 0
             have hfz27_1 := blk_frozen BK150.out 1
             go_wp2_with (first | ((with_reducible refine gate_callee (f := 47) rfl ?_); refine goesL_ (some 47) rfl rfl Tryd.func47 (by kernel_rfl) rfl #[.int .i64 (wrap64 (Int.tdiv (wrap64 (10 * x7_3)) a0_1))] rfl (by (try simp only [List.map_toArray, List.map_cons, List.map_nil]); first | done | rfl | (simp only [List.length_drop, List.length_take]; rfl)) ?_; (with_reducible refine (assessorref46_Number.calls k3 (wrap64 (Int.tdiv (wrap64 (10 * x7_3)) a0_1)) t155 _ A25.out).mono ?_); rintro e w28 ⟨rfl, hb⟩; refine ⟨_, rfl, ?_⟩; have n0_ := Aside0.mk (blk_below (g := gb150) (o := .cells #[.int .i64 a0_0, .int .i64 a0_1] 23 (0, 0)) (by (with_reducible repeat first | apply b1 | apply b2 | apply b3); exact BK150.out) hb); have n1_ := Aside0.mk (below_step (by repeat (first | (with_reducible first | exact HB.out | apply b4 | apply b5 | apply b6 | refine below_set ?_ GE150.out) | exact HB.out)) hb); clear BK150; clear HB; have BK150 := n0_; have HB := n1_; clear n0_ n1_; (try clear hb); (try clear hb2); (try clear hk); (try clear hi); have hcz29_0 : w28.cell? ⟨gb150, 0, none⟩ = some (.int .i64 a0_0) := (blk_cell BK150.out 0).trans rfl; have hcz29_1 : w28.cell? ⟨gb150, 1, none⟩ = some (.int .i64 a0_1) := (blk_cell BK150.out 1).trans rfl; have hfz29_0 := blk_frozen BK150.out 0; have hfz29_1 := blk_frozen BK150.out 1))
             go_roundg k3
             case measure => have := HJ1.out; have := HJ16.out; have := HK3.out; omega
             case rel => exact ⟨(x6_3 ++ t155), (Int.tmod (wrap64 (10 * x7_3)) a0_1), (by first | rfl | (simp; done) | (simp [*]; done)), (by first | rfl | (simp; done) | (simp [*]; done)), H', ⟨by have := HJ1.out; have := HJ16.out; have := HK3.out; omega⟩, ⟨by (with_reducible repeat first | apply b1 | apply b2 | apply b3); exact BK150.out⟩, ⟨by repeat (first | (with_reducible first | exact HB.out | apply b4 | apply b5 | apply b6 | refine below_set ?_ GE150.out) | exact HB.out)⟩⟩
            ·
             rw [if_neg c26] at H
             exact absurd H (by simp)
          ·
           rw [if_neg c23] at H
           have c23b0 : decide (0 < x7_3) = false := decide_eq_false c23
           clear c23
           simp only [Option.some.injEq, Prod.mk.injEq] at H
           obtain ⟨rfl, rfl⟩ := H
           go_wp2
           go_ret2
           exact ⟨by first | rfl | (simp [errW_none, errW_some] <;> rfl) | (simp [*, errW_none, errW_some] <;> rfl), by repeat (first | (with_reducible first | exact HB.out | apply b4 | apply b5 | apply b6 | refine below_set ?_ GE150.out) | exact HB.out)⟩
     ·
      rw [if_neg c16] at H
      exact absurd H (by simp)

end Go.Proofs.YtkfibjmjamdigaaDoor.Q

namespace Go.Proofs.YtkfibjmjamdigaaDoor.Q
open Go.RowKit Go.Proofs.YtkfibjmjamdigaaDoorW.PrintWords Go.Proofs.YtkfibjmjamdigaaDoorW.PrintLast Go.Proofs.YtkfibjmjamdigaaDoorW.PrintMore
attribute [local go_sem] max2_int min2_int max_two min_two max_three min_three max_four min_four   -- for this text's walks alone
set_option linter.unusedVariables false
set_option linter.unusedSimpArgs false


def assessorref46_Format.f (k : Nat) (a0_0 : Int) (a0_1 : Int) : Option (ByteArray) := (assessorref46_Valid.f k a0_0 a0_1).bind fun t157 => (if t157 = true then ((assessorref46_signed.f a0_0).bind fun bt158 => (if a0_1 = 1 then ((assessorref46_Number.f k bt158.2).bind fun t160 => (if bt158.1.size + t160.size ≤ 9223372036854775807 then (some (bt158.1 ++ t160)) else (none))) else ((assessorref46_Number.f k bt158.2).bind fun t161 => (if bt158.1.size + t161.size ≤ 9223372036854775807 then (if (bt158.1 ++ t161).size + 1 ≤ 9223372036854775807 then ((assessorref46_Number.f k a0_1).bind fun t162 => (if ((bt158.1 ++ t161) ++ (⟨#[47]⟩ : ByteArray)).size + t162.size ≤ 9223372036854775807 then (some (((bt158.1 ++ t161) ++ (⟨#[47]⟩ : ByteArray)) ++ t162)) else (none))) else (none)) else (none))))) else (some (⟨#[]⟩ : ByteArray)))
theorem assessorref46_Format.mono : ∀ a0 a1 k, LeO (assessorref46_Format.f k a0 a1) (assessorref46_Format.f (k + 1) a0 a1) := by
 intro a0 a1 k
 unfold assessorref46_Format.f
 repeat' first
   | (with_reducible exact assessorref46_Number.mono _ _)
   | (with_reducible exact assessorref46_Valid.mono _ _ _)
   | (with_reducible exact LeO.refl _)
   | (with_reducible exact LeO.none _)
   | (with_reducible refine LeO.ite ?_ ?_)
   | (with_reducible refine LeO.bind ?_ (fun _ => ?_))
   | exact assessorref46_Number.mono _ _
   | exact assessorref46_Valid.mono _ _ _
   | exact LeO.none _
   | refine LeO.ite ?_ ?_
   | refine LeO.bind ?_ (fun _ => ?_)
def assessorref46_Format.T6 : Bool × List (List Nat × List Nat) := (true, [([], []), ([], []), ([1], [1]), ([0, 2], [0, 2]), ([3], [3]), ([], []), ([5], [5]), ([6, 2], [6]), ([4, 7], [4, 7]), ([8, 7, 0, 1, 2, 3, 4, 5, 6, 7, 8], [8])])
def assessorref46_Format.B6 : List Nat := [0, 0, 2, 7, 15, 0, 32, 102, 255, 511]
theorem assessorref46_Format.tab6 : rtab .any (opsOf Tryd.f18 6) = assessorref46_Format.T6 := by kernel_rfl
theorem assessorref46_Format.bits6 : waitsOk assessorref46_Format.T6.2 assessorref46_Format.B6 = true := by kernel_rfl
set_option maxHeartbeats 8000000 in
set_option maxRecDepth 100000 in
theorem assessorref46_Format.calls (k : Nat) (a0_0 : Int) (a0_1 : Int) (r : ByteArray) (w : World) (h : assessorref46_Format.f k a0_0 a0_1 = some r) :
  Calls Tryd.prog 18 #[.agg #[.int .i64 a0_0, .int .i64 a0_1]] w fun e w' => e = .returned (.string r) ∧ Below w.heap.size w w' := by
 have hu23 := Tryd.underlying23
 have HB := Aside0.mk (Below.refl w.heap.size w)
 have H : ((assessorref46_Valid.f k a0_0 a0_1).bind fun t157 => (if t157 = true then ((assessorref46_signed.f a0_0).bind fun bt158 => (if a0_1 = 1 then ((assessorref46_Number.f k bt158.2).bind fun t160 => (if bt158.1.size + t160.size ≤ 9223372036854775807 then (some (bt158.1 ++ t160)) else (none))) else ((assessorref46_Number.f k bt158.2).bind fun t161 => (if bt158.1.size + t161.size ≤ 9223372036854775807 then (if (bt158.1 ++ t161).size + 1 ≤ 9223372036854775807 then ((assessorref46_Number.f k a0_1).bind fun t162 => (if ((bt158.1 ++ t161) ++ (⟨#[47]⟩ : ByteArray)).size + t162.size ≤ 9223372036854775807 then (some (((bt158.1 ++ t161) ++ (⟨#[47]⟩ : ByteArray)) ++ t162)) else (none))) else (none)) else (none))))) else (some (⟨#[]⟩ : ByteArray)))) = some r := h
 clear h
 replace H := Option.bind_eq_some_iff.mp H
 obtain ⟨t157, A20, H⟩ := H
 replace H : (if t157 = true then ((assessorref46_signed.f a0_0).bind fun bt158 => (if a0_1 = 1 then ((assessorref46_Number.f k bt158.2).bind fun t160 => (if bt158.1.size + t160.size ≤ 9223372036854775807 then (some (bt158.1 ++ t160)) else (none))) else ((assessorref46_Number.f k bt158.2).bind fun t161 => (if bt158.1.size + t161.size ≤ 9223372036854775807 then (if (bt158.1 ++ t161).size + 1 ≤ 9223372036854775807 then ((assessorref46_Number.f k a0_1).bind fun t162 => (if ((bt158.1 ++ t161) ++ (⟨#[47]⟩ : ByteArray)).size + t162.size ≤ 9223372036854775807 then (some (((bt158.1 ++ t161) ++ (⟨#[47]⟩ : ByteArray)) ++ t162)) else (none))) else (none)) else (none))))) else (some (⟨#[]⟩ : ByteArray))) = some r := H
 have A2 := Aside0.mk A20
 clear A20
 by_cases c3 : t157 = true
 ·
  subst c3
  have H1 : ((assessorref46_signed.f a0_0).bind fun bt158 => (if a0_1 = 1 then ((assessorref46_Number.f k bt158.2).bind fun t160 => (if bt158.1.size + t160.size ≤ 9223372036854775807 then (some (bt158.1 ++ t160)) else (none))) else ((assessorref46_Number.f k bt158.2).bind fun t161 => (if bt158.1.size + t161.size ≤ 9223372036854775807 then (if (bt158.1 ++ t161).size + 1 ≤ 9223372036854775807 then ((assessorref46_Number.f k a0_1).bind fun t162 => (if ((bt158.1 ++ t161) ++ (⟨#[47]⟩ : ByteArray)).size + t162.size ≤ 9223372036854775807 then (some (((bt158.1 ++ t161) ++ (⟨#[47]⟩ : ByteArray)) ++ t162)) else (none))) else (none)) else (none))))) = some r := by rw [if_pos rfl] at H; exact H
  clear H
  have H := H1
  clear H1
  replace H := Option.bind_eq_some_iff.mp H
  obtain ⟨⟨t158, t159⟩, A40, H⟩ := H
  replace H : (if a0_1 = 1 then ((assessorref46_Number.f k t159).bind fun t160 => (if t158.size + t160.size ≤ 9223372036854775807 then (some (t158 ++ t160)) else (none))) else ((assessorref46_Number.f k t159).bind fun t161 => (if t158.size + t161.size ≤ 9223372036854775807 then (if (t158 ++ t161).size + 1 ≤ 9223372036854775807 then ((assessorref46_Number.f k a0_1).bind fun t162 => (if ((t158 ++ t161) ++ (⟨#[47]⟩ : ByteArray)).size + t162.size ≤ 9223372036854775807 then (some (((t158 ++ t161) ++ (⟨#[47]⟩ : ByteArray)) ++ t162)) else (none))) else (none)) else (none)))) = some r := H
  have A4 := Aside0.mk A40
  clear A40
  by_cases c5 : a0_1 = 1
  ·
   rw [if_pos c5] at H
   have c5b0 : (a0_1 == 1) = true := beq_iff_eq.mpr c5
   have c5b1 : (a0_1 != 1) = false := bne_eq_false_iff_eq.mpr c5
   clear c5
   replace H := Option.bind_eq_some_iff.mp H
   obtain ⟨t160, A60, H⟩ := H
   replace H : (if t158.size + t160.size ≤ 9223372036854775807 then (some (t158 ++ t160)) else (none)) = some r := H
   have A6 := Aside0.mk A60
   clear A60
   by_cases c7 : t158.size + t160.size ≤ 9223372036854775807
   ·
    rw [if_pos c7] at H
    have c7b0 := eq_true c7
    have c7b1 : decide (t158.size + t160.size ≤ 9223372036854775807) = true := decide_eq_true c7
    try have c7b2 : (9223372036854775807 < t158.size + t160.size) = False := eq_false (Nat.not_lt.2 c7)
    obtain rfl := Option.some.inj H
    simp only [Option.some.injEq, Prod.mk.injEq] at H
    obtain ⟨rfl⟩ := H
    go_enter Tryd.func18, Tryd.ntmps18
    go_wp2_with (first | ((with_reducible refine gate_dst (N := 1) rfl ?_); refine box_event ?hg (N := 1) ?hd (cs := #[.int .i64 a0_0, .int .i64 a0_1]) (t := 23) ?hr ?_; (case hd => rfl); (case hg => rfl); (case hr => first | (go_simp; done) | (go_simp; rfl)); intro gb156 hg w8 hbox hb; have n0_ := Aside0.mk (below_step (by repeat (first | (with_reducible first | exact HB.out | apply b4 | apply b5 | apply b6) | exact HB.out)) hb); have n1_ := Aside0.mk (hbox); have n2_ := Aside0.mk ((by rw [hg]; exact (below_size (by repeat (first | (with_reducible first | exact HB.out | apply b4 | apply b5 | apply b6) | exact HB.out))) : w.heap.size ≤ gb156)); have n3_ := Aside0.mk ((by rw [hg]; exact (below_size (by repeat (first | (with_reducible first | exact HB.out | apply b4 | apply b5 | apply b6) | exact HB.out))) : w.heap.size ≤ gb156)); clear HB; have HB := n0_; have BK156 := n1_; have GW156 := n2_; have GE156 := n3_; clear n0_ n1_ n2_ n3_; clear hb hbox hg; have hcz9_0 : w8.cell? ⟨gb156, 0, none⟩ = some (.int .i64 a0_0) := (blk_cell BK156.out 0).trans rfl; have hcz9_1 : w8.cell? ⟨gb156, 1, none⟩ = some (.int .i64 a0_1) := (blk_cell BK156.out 1).trans rfl; have hfz9_0 := blk_frozen BK156.out 0; have hfz9_1 := blk_frozen BK156.out 1) | ((with_reducible refine gate_callee (f := 16) rfl ?_); refine goesL_ (some 6) rfl rfl Tryd.func16 (by kernel_rfl) rfl #[.agg #[.int .i64 a0_0, .int .i64 a0_1]] rfl (by (try simp only [List.map_toArray, List.map_cons, List.map_nil]); first | done | rfl | (simp only [List.length_drop, List.length_take]; rfl)) ?_; (with_reducible refine (assessorref46_Valid.calls k a0_0 a0_1 true _ A2.out).mono ?_); rintro e w10 ⟨rfl, hb⟩; refine ⟨_, rfl, ?_⟩; have n0_ := Aside0.mk (blk_below (g := gb156) (o := .cells #[.int .i64 a0_0, .int .i64 a0_1] 23 (0, 0)) (by (with_reducible repeat first | apply b1 | apply b2 | apply b3); exact BK156.out) hb); have n1_ := Aside0.mk (below_step (by repeat (first | (with_reducible first | exact HB.out | apply b4 | apply b5 | apply b6 | refine below_set ?_ GE156.out) | exact HB.out)) hb); clear BK156; clear HB; have BK156 := n0_; have HB := n1_; clear n0_ n1_; (try clear hb); (try clear hb2); (try clear hk); (try clear hi); have hcz11_0 : w10.cell? ⟨gb156, 0, none⟩ = some (.int .i64 a0_0) := (blk_cell BK156.out 0).trans rfl; have hcz11_1 : w10.cell? ⟨gb156, 1, none⟩ = some (.int .i64 a0_1) := (blk_cell BK156.out 1).trans rfl; have hfz11_0 := blk_frozen BK156.out 0; have hfz11_1 := blk_frozen BK156.out 1) | ((with_reducible refine gate_callee (f := 46) rfl ?_); refine goesL_ (some 11) rfl rfl Tryd.func46 (by kernel_rfl) rfl #[.int .i64 a0_0] rfl (by (try simp only [List.map_toArray, List.map_cons, List.map_nil]); first | done | rfl | (simp only [List.length_drop, List.length_take]; rfl)) ?_; (with_reducible refine (assessorref46_signed.calls a0_0 t158 t159 _ A4.out).mono ?_); rintro e w' ⟨rfl, ⟨nd, rfl⟩⟩; refine ⟨_, rfl, ?_⟩) | ((with_reducible refine gate_callee (f := 47) rfl ?_); refine goesL_ (some 19) rfl rfl Tryd.func47 (by kernel_rfl) rfl #[.int .i64 t159] rfl (by (try simp only [List.map_toArray, List.map_cons, List.map_nil]); first | done | rfl | (simp only [List.length_drop, List.length_take]; rfl)) ?_; (with_reducible refine (assessorref46_Number.calls k t159 t160 _ A6.out).mono ?_); rintro e w12 ⟨rfl, hb⟩; refine ⟨_, rfl, ?_⟩; have n0_ := Aside0.mk (blk_below (g := gb156) (o := .cells #[.int .i64 a0_0, .int .i64 a0_1] 23 (0, 0)) (by (with_reducible repeat first | apply b1 | apply b2 | apply b3); exact BK156.out) hb); have n1_ := Aside0.mk (below_step (by repeat (first | (with_reducible first | exact HB.out | apply b4 | apply b5 | apply b6 | refine below_set ?_ GE156.out) | exact HB.out)) hb); clear BK156; clear HB; have BK156 := n0_; have HB := n1_; clear n0_ n1_; (try clear hb); (try clear hb2); (try clear hk); (try clear hi)))
    go_ret
    exact ⟨by first | rfl | (simp [errW_none, errW_some] <;> rfl) | (simp [*, errW_none, errW_some] <;> rfl), by repeat (first | (with_reducible first | exact HB.out | apply b4 | apply b5 | apply b6 | refine below_set ?_ GE156.out) | exact HB.out)⟩
   ·
    rw [if_neg c7] at H
    exact absurd H (by simp)
  ·
   rw [if_neg c5] at H
   have c5b0 : (a0_1 == 1) = false := beq_eq_false_iff_ne.mpr c5
   have c5b1 : (a0_1 != 1) = true := bne_iff_ne.mpr c5
   replace H := Option.bind_eq_some_iff.mp H
   obtain ⟨t161, A130, H⟩ := H
   replace H : (if t158.size + t161.size ≤ 9223372036854775807 then (if (t158 ++ t161).size + 1 ≤ 9223372036854775807 then ((assessorref46_Number.f k a0_1).bind fun t162 => (if ((t158 ++ t161) ++ (⟨#[47]⟩ : ByteArray)).size + t162.size ≤ 9223372036854775807 then (some (((t158 ++ t161) ++ (⟨#[47]⟩ : ByteArray)) ++ t162)) else (none))) else (none)) else (none)) = some r := H
   have A13 := Aside0.mk A130
   clear A130
   by_cases c14 : t158.size + t161.size ≤ 9223372036854775807
   ·
    rw [if_pos c14] at H
    have c14b0 := eq_true c14
    have c14b1 : decide (t158.size + t161.size ≤ 9223372036854775807) = true := decide_eq_true c14
    try have c14b2 : (9223372036854775807 < t158.size + t161.size) = False := eq_false (Nat.not_lt.2 c14)
    by_cases c15 : (t158 ++ t161).size + 1 ≤ 9223372036854775807
    ·
     rw [if_pos c15] at H
     have c15b0 := eq_true c15
     have c15b1 : decide ((t158 ++ t161).size + 1 ≤ 9223372036854775807) = true := decide_eq_true c15
     have c15b4 : t158.size + t161.size + 1 ≤ 9223372036854775807 := by have z_ := c15; (try simp only [ByteArray.size_append] at z_); exact z_
     have c15b5 : (9223372036854775807 < t158.size + t161.size + 1) = False := eq_false (Nat.not_lt.2 c15b4)
     try have c15b2 : (9223372036854775807 < (t158 ++ t161).size + 1) = False := eq_false (Nat.not_lt.2 c15)
     replace H := Option.bind_eq_some_iff.mp H
     obtain ⟨t162, A160, H⟩ := H
     replace H : (if ((t158 ++ t161) ++ (⟨#[47]⟩ : ByteArray)).size + t162.size ≤ 9223372036854775807 then (some (((t158 ++ t161) ++ (⟨#[47]⟩ : ByteArray)) ++ t162)) else (none)) = some r := H
     have A16 := Aside0.mk A160
     clear A160
     by_cases c17 : ((t158 ++ t161) ++ (⟨#[47]⟩ : ByteArray)).size + t162.size ≤ 9223372036854775807
     ·
      rw [if_pos c17] at H
      have c17b0 := eq_true c17
      have c17b1 : decide (((t158 ++ t161) ++ (⟨#[47]⟩ : ByteArray)).size + t162.size ≤ 9223372036854775807) = true := decide_eq_true c17
      have c17b4 : t158.size + t161.size + 1 + t162.size ≤ 9223372036854775807 := by have z_ := c17; (try simp only [ByteArray.size_append] at z_); exact z_
      have c17b5 : (9223372036854775807 < t158.size + t161.size + 1 + t162.size) = False := eq_false (Nat.not_lt.2 c17b4)
      try have c17b2 : (9223372036854775807 < ((t158 ++ t161) ++ (⟨#[47]⟩ : ByteArray)).size + t162.size) = False := eq_false (Nat.not_lt.2 c17)
      obtain rfl := Option.some.inj H
      simp only [Option.some.injEq, Prod.mk.injEq] at H
      obtain ⟨rfl⟩ := H
      go_enter Tryd.func18, Tryd.ntmps18
      try go_wp2_with (first | ((with_reducible refine gate_dst (N := 1) rfl ?_); refine box_event ?hg (N := 1) ?hd (cs := #[.int .i64 a0_0, .int .i64 a0_1]) (t := 23) ?hr ?_; (case hd => rfl); (case hg => rfl); (case hr => first | (go_simp; done) | (go_simp; rfl)); intro gb156 hg w18 hbox hb; have n0_ := Aside0.mk (below_step (by repeat (first | (with_reducible first | exact HB.out | apply b4 | apply b5 | apply b6) | exact HB.out)) hb); have n1_ := Aside0.mk (hbox); have n2_ := Aside0.mk ((by rw [hg]; exact (below_size (by repeat (first | (with_reducible first | exact HB.out | apply b4 | apply b5 | apply b6) | exact HB.out))) : w.heap.size ≤ gb156)); have n3_ := Aside0.mk ((by rw [hg]; exact (below_size (by repeat (first | (with_reducible first | exact HB.out | apply b4 | apply b5 | apply b6) | exact HB.out))) : w.heap.size ≤ gb156)); clear HB; have HB := n0_; have BK156 := n1_; have GW156 := n2_; have GE156 := n3_; clear n0_ n1_ n2_ n3_; clear hb hbox hg; have hcz19_0 : w18.cell? ⟨gb156, 0, none⟩ = some (.int .i64 a0_0) := (blk_cell BK156.out 0).trans rfl; have hcz19_1 : w18.cell? ⟨gb156, 1, none⟩ = some (.int .i64 a0_1) := (blk_cell BK156.out 1).trans rfl; have hfz19_0 := blk_frozen BK156.out 0; have hfz19_1 := blk_frozen BK156.out 1) | ((with_reducible refine gate_callee (f := 16) rfl ?_); refine goesL_ (some 6) rfl rfl Tryd.func16 (by kernel_rfl) rfl #[.agg #[.int .i64 a0_0, .int .i64 a0_1]] rfl (by (try simp only [List.map_toArray, List.map_cons, List.map_nil]); first | done | rfl | (simp only [List.length_drop, List.length_take]; rfl)) ?_; (with_reducible refine (assessorref46_Valid.calls k a0_0 a0_1 true _ A2.out).mono ?_); rintro e w20 ⟨rfl, hb⟩; refine ⟨_, rfl, ?_⟩; have n0_ := Aside0.mk (blk_below (g := gb156) (o := .cells #[.int .i64 a0_0, .int .i64 a0_1] 23 (0, 0)) (by (with_reducible repeat first | apply b1 | apply b2 | apply b3); exact BK156.out) hb); have n1_ := Aside0.mk (below_step (by repeat (first | (with_reducible first | exact HB.out | apply b4 | apply b5 | apply b6 | refine below_set ?_ GE156.out) | exact HB.out)) hb); clear BK156; clear HB; have BK156 := n0_; have HB := n1_; clear n0_ n1_; (try clear hb); (try clear hb2); (try clear hk); (try clear hi); have hcz21_0 : w20.cell? ⟨gb156, 0, none⟩ = some (.int .i64 a0_0) := (blk_cell BK156.out 0).trans rfl; have hcz21_1 : w20.cell? ⟨gb156, 1, none⟩ = some (.int .i64 a0_1) := (blk_cell BK156.out 1).trans rfl; have hfz21_0 := blk_frozen BK156.out 0; have hfz21_1 := blk_frozen BK156.out 1) | ((with_reducible refine gate_callee (f := 46) rfl ?_); refine goesL_ (some 11) rfl rfl Tryd.func46 (by kernel_rfl) rfl #[.int .i64 a0_0] rfl (by (try simp only [List.map_toArray, List.map_cons, List.map_nil]); first | done | rfl | (simp only [List.length_drop, List.length_take]; rfl)) ?_; (with_reducible refine (assessorref46_signed.calls a0_0 t158 t159 _ A4.out).mono ?_); rintro e w' ⟨rfl, ⟨nd, rfl⟩⟩; refine ⟨_, rfl, ?_⟩))
      (try (rw [drewN_self w20]; generalize hq_ : World.drewN w20 _ = w20; have n0_ : Aside0 (w20.heap[gb156]? = some (.cells #[.int .i64 a0_0, .int .i64 a0_1] 23 (0, 0))) := ⟨by rw [← hq_]; exact (by (with_reducible repeat first | apply b1 | apply b2 | apply b3); exact BK156.out)⟩; have n1_ : Aside0 (Below w.heap.size w w20) := ⟨by rw [← hq_]; exact (by repeat (first | (with_reducible first | exact HB.out | apply b4 | apply b5 | apply b6 | refine below_set ?_ GE156.out) | exact HB.out))⟩; clear BK156 HB hq_; have BK156 := n0_; have HB := n1_; clear n0_ n1_))
      have n0_ := Aside0.mk (blk_drew BK156.out)
      have n1_ := Aside0.mk (below_drew1 HB.out)
      clear BK156
      clear HB
      have BK156 := n0_
      have HB := n1_
      clear n0_ n1_
      refine start_ (n := 10) (S := fun w' => w'.cell? ⟨gb156, 0, none⟩ = some (.int .i64 a0_0) ∧ w'.cell? ⟨gb156, 1, none⟩ = some (.int .i64 a0_1)) (ds := []) #[false, false, false, false, false, false, false, false, false, false] (by kernel_rfl) rfl rfl ⟨(blk_cell BK156.out 0).trans rfl, (blk_cell BK156.out 1).trans rfl⟩ (fun hHeld => ?_); refine with_tabW assessorref46_Format.tab6 assessorref46_Format.bits6 (fun HT_ HW_ => ?_)
      generalize w20.drew = w22 at BK156 HB hHeld ⊢
      refine pure_ (i := 0) (N := some 21) (v := ?_) (a' := ?_) #[true, false, false, false, false, false, false, false, false, false] rfl rfl (any_of HT_.out (by kernel_rfl)) (fun _ _ _ h => h) (Or.inl ⟨by rfl, ?_⟩) ?_ ?_
      rotate_left
      ·
       intro w'
       go_simp
       with_reducible rfl
      rotate_left
      ·
       simp only [Act.put, List.setIfInBounds_toArray, List.set_cons_zero, List.set_cons_succ, i64_w, i32_w]
       rfl
      refine pure_ (i := 1) (N := some 22) (v := ?_) (a' := ?_) #[true, true, false, false, false, false, false, false, false, false] rfl rfl (any_of HT_.out (by kernel_rfl)) (fun _ _ _ h => h) (Or.inl ⟨by rfl, ?_⟩) ?_ ?_
      rotate_left
      ·
       intro w'
       go_simp
       with_reducible rfl
      rotate_left
      ·
       simp only [Act.put, List.setIfInBounds_toArray, List.set_cons_zero, List.set_cons_succ, i64_w, i32_w]
       rfl
      refine pure_ (i := 5) (N := some 26) (v := ?_) (a' := ?_) #[true, true, false, false, false, true, false, false, false, false] rfl rfl (any_of HT_.out (by kernel_rfl)) (fun _ _ _ h => h) (Or.inl ⟨by rfl, ?_⟩) ?_ ?_
      rotate_left
      ·
       intro w'
       go_simp
       with_reducible rfl
      rotate_left
      ·
       simp only [Act.put, List.setIfInBounds_toArray, List.set_cons_zero, List.set_cons_succ, i64_w, i32_w]
       rfl
      refine take_ (i := 6) (N := some 27) (v := ?_) (a' := ?_) #[true, true, false, false, false, true, true, false, false, false] rfl rfl (take_ofW HT_.out HW_.out (by kernel_rfl)) (fun _ _ _ h => h) (Or.inl ⟨by rfl, ?_⟩) hHeld ?_ ?_
      rotate_left
      ·
       rintro w' ⟨s0, s1⟩
       go_simp
       with_reducible rfl
      rotate_left
      ·
       simp only [Act.put, List.setIfInBounds_toArray, List.set_cons_zero, List.set_cons_succ, i64_w, i32_w]
       rfl
      refine one_ (i := 2) (N := some 23) #[true, true, true, false, false, true, true, false, false, false] rfl rfl (one_of HT_.out (by kernel_rfl)) (by decide) (fun K hK => ?_)
      refine goes_ Tryd.func47 (by kernel_rfl) rfl #[.int .i64 t159] (by rfl) rfl rfl (by (try simp only [List.map_toArray, List.map_cons, List.map_nil]); first | done | rfl | (simp only [List.length_drop, List.length_take]; rfl)) ?_
      with_reducible refine (assessorref46_Number.calls k t159 t161 _ A13.out).mono ?_
      rintro e w23 ⟨rfl, hb⟩
      refine ⟨_, rfl, ?_⟩
      have n0_ := Aside0.mk (blk_below (g := gb156) (o := .cells #[.int .i64 a0_0, .int .i64 a0_1] 23 (0, 0)) (by (with_reducible repeat first | apply b1 | apply b2 | apply b3); exact BK156.out) hb)
      have n1_ := Aside0.mk (below_step (by repeat (first | (with_reducible first | exact HB.out | apply b4 | apply b5 | apply b6 | refine below_set ?_ GE156.out) | exact HB.out)) hb)
      clear BK156
      clear HB
      have BK156 := n0_
      have HB := n1_
      clear n0_ n1_
      (try clear hb)
      (try clear hb2)
      (try clear hk)
      (try clear hi)
      refine hK.out _ _ ⟨(blk_cell BK156.out 0).trans rfl, (blk_cell BK156.out 1).trans rfl⟩ (fun hHeld => ?_)
      clear hK K
      refine norm_ (a' := ?_) ?_ ?_
      rotate_left
      ·
       show Act.put _ (some 23) _ = _
       simp only [Act.put, List.setIfInBounds_toArray, List.set_cons_zero, List.set_cons_succ, i64_w, i32_w]
       rfl
      refine pure_ (i := 3) (N := some 24) (v := ?_) (a' := ?_) #[true, true, true, true, false, true, true, false, false, false] rfl rfl (any_of HT_.out (by kernel_rfl)) (fun _ _ _ h => h) (Or.inl ⟨by rfl, ?_⟩) ?_ ?_
      rotate_left
      ·
       intro w'
       go_simp
       with_reducible rfl
      rotate_left
      ·
       simp only [Act.put, List.setIfInBounds_toArray, List.set_cons_zero, List.set_cons_succ, i64_w, i32_w]
       rfl
      refine pure_ (i := 4) (N := some 25) (v := ?_) (a' := ?_) #[true, true, true, true, true, true, true, false, false, false] rfl rfl (any_of HT_.out (by kernel_rfl)) (fun _ _ _ h => h) (Or.inl ⟨by rfl, ?_⟩) ?_ ?_
      rotate_left
      ·
       intro w'
       go_simp
       with_reducible rfl
      rotate_left
      ·
       simp only [Act.put, List.setIfInBounds_toArray, List.set_cons_zero, List.set_cons_succ, i64_w, i32_w]
       rfl
      refine one_ (i := 7) (N := some 28) #[true, true, true, true, true, true, true, true, false, false] rfl rfl (one_of HT_.out (by kernel_rfl)) (by decide) (fun K hK => ?_)
      refine goes_ Tryd.func47 (by kernel_rfl) rfl #[.int .i64 a0_1] (by rfl) rfl rfl (by (try simp only [List.map_toArray, List.map_cons, List.map_nil]); first | done | rfl | (simp only [List.length_drop, List.length_take]; rfl)) ?_
      with_reducible refine (assessorref46_Number.calls k a0_1 t162 _ A16.out).mono ?_
      rintro e w24 ⟨rfl, hb⟩
      refine ⟨_, rfl, ?_⟩
      have n0_ := Aside0.mk (blk_below (g := gb156) (o := .cells #[.int .i64 a0_0, .int .i64 a0_1] 23 (0, 0)) (by (with_reducible repeat first | apply b1 | apply b2 | apply b3); exact BK156.out) hb)
      have n1_ := Aside0.mk (below_step (by repeat (first | (with_reducible first | exact HB.out | apply b4 | apply b5 | apply b6 | refine below_set ?_ GE156.out) | exact HB.out)) hb)
      clear BK156
      clear HB
      have BK156 := n0_
      have HB := n1_
      clear n0_ n1_
      (try clear hb)
      (try clear hb2)
      (try clear hk)
      (try clear hi)
      refine hK.out _ _ ⟨(blk_cell BK156.out 0).trans rfl, (blk_cell BK156.out 1).trans rfl⟩ (fun hHeld => ?_)
      clear hK K
      refine norm_ (a' := ?_) ?_ ?_
      rotate_left
      ·
       show Act.put _ (some 28) _ = _
       simp only [Act.put, List.setIfInBounds_toArray, List.set_cons_zero, List.set_cons_succ, i64_w, i32_w]
       rfl
      refine pure_ (i := 8) (N := some 29) (v := ?_) (a' := ?_) #[true, true, true, true, true, true, true, true, true, false] rfl rfl (any_of HT_.out (by kernel_rfl)) (fun _ _ _ h => h) (Or.inl ⟨by rfl, ?_⟩) ?_ ?_
      rotate_left
      ·
       intro w'
       go_simp
       with_reducible rfl
      rotate_left
      ·
       simp only [Act.put, List.setIfInBounds_toArray, List.set_cons_zero, List.set_cons_succ, i64_w, i32_w]
       rfl
      refine pure_ (i := 9) (N := some 2) (v := ?_) (a' := ?_) #[true, true, true, true, true, true, true, true, true, true] rfl rfl (any_of HT_.out (by kernel_rfl)) (fun _ _ _ h => h) (Or.inl ⟨by rfl, ?_⟩) ?_ ?_
      rotate_left
      ·
       intro w'
       go_simp
       with_reducible rfl
      rotate_left
      ·
       simp only [Act.put, List.setIfInBounds_toArray, List.set_cons_zero, List.set_cons_succ, i64_w, i32_w]
       rfl
      refine done_ (done_of HT_.out (by kernel_rfl)) ?_
      try go_wp2
      go_ret
      exact ⟨by first | rfl | (simp [errW_none, errW_some] <;> rfl) | (simp [*, errW_none, errW_some] <;> rfl), by repeat (first | (with_reducible first | exact HB.out | apply b4 | apply b5 | apply b6 | refine below_set ?_ GE156.out) | exact HB.out)⟩
     ·
      rw [if_neg c17] at H
      exact absurd H (by simp)
    ·
     rw [if_neg c15] at H
     exact absurd H (by simp)
   ·
    rw [if_neg c14] at H
    exact absurd H (by simp)
 ·
  replace c3 := Bool.eq_false_iff.mpr c3
  subst c3
  have H1 : (some (⟨#[]⟩ : ByteArray)) = some r := by rw [if_neg (show ¬ (false = true) by decide)] at H; exact H
  clear H
  have H := H1
  clear H1
  obtain rfl := Option.some.inj H
  simp only [Option.some.injEq, Prod.mk.injEq] at H
  obtain ⟨rfl⟩ := H
  go_enter Tryd.func18, Tryd.ntmps18
  go_wp2_with (first | ((with_reducible refine gate_dst (N := 1) rfl ?_); refine box_event ?hg (N := 1) ?hd (cs := #[.int .i64 a0_0, .int .i64 a0_1]) (t := 23) ?hr ?_; (case hd => rfl); (case hg => rfl); (case hr => first | (go_simp; done) | (go_simp; rfl)); intro gb156 hg w25 hbox hb; have n0_ := Aside0.mk (below_step (by repeat (first | (with_reducible first | exact HB.out | apply b4 | apply b5 | apply b6) | exact HB.out)) hb); have n1_ := Aside0.mk (hbox); have n2_ := Aside0.mk ((by rw [hg]; exact (below_size (by repeat (first | (with_reducible first | exact HB.out | apply b4 | apply b5 | apply b6) | exact HB.out))) : w.heap.size ≤ gb156)); have n3_ := Aside0.mk ((by rw [hg]; exact (below_size (by repeat (first | (with_reducible first | exact HB.out | apply b4 | apply b5 | apply b6) | exact HB.out))) : w.heap.size ≤ gb156)); clear HB; have HB := n0_; have BK156 := n1_; have GW156 := n2_; have GE156 := n3_; clear n0_ n1_ n2_ n3_; clear hb hbox hg; have hcz26_0 : w25.cell? ⟨gb156, 0, none⟩ = some (.int .i64 a0_0) := (blk_cell BK156.out 0).trans rfl; have hcz26_1 : w25.cell? ⟨gb156, 1, none⟩ = some (.int .i64 a0_1) := (blk_cell BK156.out 1).trans rfl; have hfz26_0 := blk_frozen BK156.out 0; have hfz26_1 := blk_frozen BK156.out 1) | ((with_reducible refine gate_callee (f := 16) rfl ?_); refine goesL_ (some 6) rfl rfl Tryd.func16 (by kernel_rfl) rfl #[.agg #[.int .i64 a0_0, .int .i64 a0_1]] rfl (by (try simp only [List.map_toArray, List.map_cons, List.map_nil]); first | done | rfl | (simp only [List.length_drop, List.length_take]; rfl)) ?_; (with_reducible refine (assessorref46_Valid.calls k a0_0 a0_1 false _ A2.out).mono ?_); rintro e w27 ⟨rfl, hb⟩; refine ⟨_, rfl, ?_⟩; have n0_ := Aside0.mk (blk_below (g := gb156) (o := .cells #[.int .i64 a0_0, .int .i64 a0_1] 23 (0, 0)) (by (with_reducible repeat first | apply b1 | apply b2 | apply b3); exact BK156.out) hb); have n1_ := Aside0.mk (below_step (by repeat (first | (with_reducible first | exact HB.out | apply b4 | apply b5 | apply b6 | refine below_set ?_ GE156.out) | exact HB.out)) hb); clear BK156; clear HB; have BK156 := n0_; have HB := n1_; clear n0_ n1_; (try clear hb); (try clear hb2); (try clear hk); (try clear hi)))
  go_ret
  exact ⟨by first | rfl | (simp [errW_none, errW_some] <;> rfl) | (simp [*, errW_none, errW_some] <;> rfl), by repeat (first | (with_reducible first | exact HB.out | apply b4 | apply b5 | apply b6 | refine below_set ?_ GE156.out) | exact HB.out)⟩

end Go.Proofs.YtkfibjmjamdigaaDoor.Q

namespace Go.Proofs.YtkfibjmjamdigaaDoor.Q
open Go.RowKit Go.Proofs.YtkfibjmjamdigaaDoorW.PrintWords Go.Proofs.YtkfibjmjamdigaaDoorW.PrintLast Go.Proofs.YtkfibjmjamdigaaDoorW.PrintMore
attribute [local go_sem] max2_int min2_int max_two min_two max_three min_three max_four min_four   -- for this text's walks alone
set_option linter.unusedVariables false
set_option linter.unusedSimpArgs false


def assessorref46_Points.j0 : Nat → Int → Bool → Option (ByteArray)
 | 0, _, _ => none
 | k + 1, x0, x10 => if x10 = true then (some (⟨#[]⟩ : ByteArray)) else ((assessorref46_signed.f x0).bind fun bt163 => ((assessorref46_Number.f k (wrap64 (Int.tdiv bt163.2 100))).bind fun t165 => (if bt163.1.size + t165.size ≤ 9223372036854775807 then (if (bt163.1 ++ t165).size + 1 ≤ 9223372036854775807 then ((assessorref46_Number.f k (Int.tmod (wrap64 (Int.tdiv bt163.2 10)) 10)).bind fun t166 => (if ((bt163.1 ++ t165) ++ (⟨#[46]⟩ : ByteArray)).size + t166.size ≤ 9223372036854775807 then ((assessorref46_Number.f k (Int.tmod bt163.2 10)).bind fun t167 => (if (((bt163.1 ++ t165) ++ (⟨#[46]⟩ : ByteArray)) ++ t166).size + t167.size ≤ 9223372036854775807 then (some ((((bt163.1 ++ t165) ++ (⟨#[46]⟩ : ByteArray)) ++ t166) ++ t167)) else (none))) else (none))) else (none)) else (none))))
def assessorref46_Points.f (k : Nat) (a0 : Int) : Option (ByteArray) := if a0 < (-100000000) then (assessorref46_Points.j0 k a0 true) else (assessorref46_Points.j0 k a0 (decide (a0 > 100000000)))
theorem assessorref46_Points.mono_l : ∀ k, (∀ y0 y1, LeO (assessorref46_Points.j0 k y0 y1) (assessorref46_Points.j0 (k + 1) y0 y1))
 | 0 => fun _ _ r h => by simp [assessorref46_Points.j0] at h
 | k + 1 => by
  have ih0 := assessorref46_Points.mono_l k
  ·
   intro y0 y1
   unfold assessorref46_Points.j0
   repeat' first
   | (with_reducible exact ih0 _ _)
   | (with_reducible exact assessorref46_Number.mono _ _)
   | (with_reducible exact LeO.refl _)
   | (with_reducible exact LeO.none _)
   | (with_reducible refine LeO.ite ?_ ?_)
   | (with_reducible refine LeO.bind ?_ (fun _ => ?_))
   | exact ih0 _ _
   | exact assessorref46_Number.mono _ _
   | exact LeO.none _
   | refine LeO.ite ?_ ?_
   | refine LeO.bind ?_ (fun _ => ?_)
theorem assessorref46_Points.mono : ∀ a0 k, LeO (assessorref46_Points.f k a0) (assessorref46_Points.f (k + 1) a0) := by
 intro a0 k
 have ih0 := assessorref46_Points.mono_l k
 unfold assessorref46_Points.f
 repeat' first
   | (with_reducible exact ih0 _ _)
   | (with_reducible exact assessorref46_Number.mono _ _)
   | (with_reducible exact LeO.refl _)
   | (with_reducible exact LeO.none _)
   | (with_reducible refine LeO.ite ?_ ?_)
   | (with_reducible refine LeO.bind ?_ (fun _ => ?_))
   | exact ih0 _ _
   | exact assessorref46_Number.mono _ _
   | exact LeO.none _
   | refine LeO.ite ?_ ?_
   | refine LeO.bind ?_ (fun _ => ?_)
set_option maxHeartbeats 8000000 in
set_option maxRecDepth 100000 in
theorem assessorref46_Points.calls (k : Nat) (a0 : Int) (r : ByteArray) (w : World) (h : assessorref46_Points.f k a0 = some r) :
  Calls Tryd.prog 20 #[.int .i64 a0] w fun e w' => e = .returned (.string r) ∧ Below w.heap.size w w' := by
 have HB := Aside0.mk (Below.refl w.heap.size w)
 have H : (if a0 < (-100000000) then (assessorref46_Points.j0 k a0 true) else (assessorref46_Points.j0 k a0 (decide (a0 > 100000000)))) = some r := h
 clear h
 have HC2 := Aside0.mk H
 clear H
 go_enter Tryd.func20, Tryd.ntmps20
 go_upto_region 1 with (fail)
 go_cut [10] (fun v10 wc => ∃ (kq : Nat) (x10_1 : Bool), v10 = .bool x10_1 ∧ Aside0 (assessorref46_Points.j0 kq a0 x10_1 = some r) ∧ Aside0 (kq ≤ k) ∧ Aside0 (Below w.heap.size w wc))
 case first =>
  have H := HC2.out
  clear HC2
  by_cases c3 : a0 < (-100000000)
  ·
   rw [if_pos c3] at H
   have c3b0 : decide (a0 < (-100000000)) = true := decide_eq_true c3
   clear c3
   (first | rw [c3b0] | (simp only [i64_w, i32_w]; rw [c3b0]) | skip)
   have H' := Aside0.mk H
   clear H
   go_wp2
   go_meet
   case rel => exact ⟨_, (true), (by first | rfl | (simp; done) | (simp [*]; done)), H', ⟨by first | omega | exact Nat.le_refl _⟩, ⟨by repeat (first | (with_reducible first | exact HB.out | apply b4 | apply b5 | apply b6) | exact HB.out)⟩⟩
  ·
   rw [if_neg c3] at H
   have c3b0 : decide (a0 < (-100000000)) = false := decide_eq_false c3
   clear c3
   (first | rw [c3b0] | (simp only [i64_w, i32_w]; rw [c3b0]) | skip)
   have H' := Aside0.mk H
   clear H
   go_wp2
   go_meet
   case rel => exact ⟨_, (decide (a0 > 100000000)), (by first | rfl | (simp; done) | (simp [*]; done)), H', ⟨by first | omega | exact Nat.le_refl _⟩, ⟨by repeat (first | (with_reducible first | exact HB.out | apply b4 | apply b5 | apply b6) | exact HB.out)⟩⟩
 case rest =>
  clear HC2
  try clear c2
  try clear p2
  try clear c3
  try clear c3b0
  obtain ⟨kq, x10_1, rfl, HA, HJ1, HB⟩ := hcut
  cases kq with
  | zero => exact absurd HA.out (by simp [assessorref46_Points.j0])
  | succ kj1 =>
   have H := HA.out
   clear HA
   simp only [assessorref46_Points.j0] at H
   by_cases c4 : x10_1 = true
   ·
    subst c4
    have H1 : (some (⟨#[]⟩ : ByteArray)) = some r := by rw [if_pos rfl] at H; exact H
    clear H
    have H := H1
    clear H1
    obtain rfl := Option.some.inj H
    simp only [Option.some.injEq, Prod.mk.injEq] at H
    obtain ⟨rfl⟩ := H
    go_wp2
    go_ret
    exact ⟨by first | rfl | (simp [errW_none, errW_some] <;> rfl) | (simp [*, errW_none, errW_some] <;> rfl), by repeat (first | (with_reducible first | exact HB.out | apply b4 | apply b5 | apply b6) | exact HB.out)⟩
   ·
    replace c4 := Bool.eq_false_iff.mpr c4
    subst c4
    have H1 : ((assessorref46_signed.f a0).bind fun bt163 => ((assessorref46_Number.f kj1 (wrap64 (Int.tdiv bt163.2 100))).bind fun t165 => (if bt163.1.size + t165.size ≤ 9223372036854775807 then (if (bt163.1 ++ t165).size + 1 ≤ 9223372036854775807 then ((assessorref46_Number.f kj1 (Int.tmod (wrap64 (Int.tdiv bt163.2 10)) 10)).bind fun t166 => (if ((bt163.1 ++ t165) ++ (⟨#[46]⟩ : ByteArray)).size + t166.size ≤ 9223372036854775807 then ((assessorref46_Number.f kj1 (Int.tmod bt163.2 10)).bind fun t167 => (if (((bt163.1 ++ t165) ++ (⟨#[46]⟩ : ByteArray)) ++ t166).size + t167.size ≤ 9223372036854775807 then (some ((((bt163.1 ++ t165) ++ (⟨#[46]⟩ : ByteArray)) ++ t166) ++ t167)) else (none))) else (none))) else (none)) else (none)))) = some r := by rw [if_neg (show ¬ (false = true) by decide)] at H; exact H
    clear H
    have H := H1
    clear H1
    replace H := Option.bind_eq_some_iff.mp H
    obtain ⟨⟨t163, t164⟩, A50, H⟩ := H
    replace H : ((assessorref46_Number.f kj1 (wrap64 (Int.tdiv t164 100))).bind fun t165 => (if t163.size + t165.size ≤ 9223372036854775807 then (if (t163 ++ t165).size + 1 ≤ 9223372036854775807 then ((assessorref46_Number.f kj1 (Int.tmod (wrap64 (Int.tdiv t164 10)) 10)).bind fun t166 => (if ((t163 ++ t165) ++ (⟨#[46]⟩ : ByteArray)).size + t166.size ≤ 9223372036854775807 then ((assessorref46_Number.f kj1 (Int.tmod t164 10)).bind fun t167 => (if (((t163 ++ t165) ++ (⟨#[46]⟩ : ByteArray)) ++ t166).size + t167.size ≤ 9223372036854775807 then (some ((((t163 ++ t165) ++ (⟨#[46]⟩ : ByteArray)) ++ t166) ++ t167)) else (none))) else (none))) else (none)) else (none))) = some r := H
    have A5 := Aside0.mk A50
    clear A50
    replace H := Option.bind_eq_some_iff.mp H
    obtain ⟨t165, A60, H⟩ := H
    replace H : (if t163.size + t165.size ≤ 9223372036854775807 then (if (t163 ++ t165).size + 1 ≤ 9223372036854775807 then ((assessorref46_Number.f kj1 (Int.tmod (wrap64 (Int.tdiv t164 10)) 10)).bind fun t166 => (if ((t163 ++ t165) ++ (⟨#[46]⟩ : ByteArray)).size + t166.size ≤ 9223372036854775807 then ((assessorref46_Number.f kj1 (Int.tmod t164 10)).bind fun t167 => (if (((t163 ++ t165) ++ (⟨#[46]⟩ : ByteArray)) ++ t166).size + t167.size ≤ 9223372036854775807 then (some ((((t163 ++ t165) ++ (⟨#[46]⟩ : ByteArray)) ++ t166) ++ t167)) else (none))) else (none))) else (none)) else (none)) = some r := H
    have A6 := Aside0.mk A60
    clear A60
    by_cases c7 : t163.size + t165.size ≤ 9223372036854775807
    ·
     rw [if_pos c7] at H
     have c7b0 := eq_true c7
     have c7b1 : decide (t163.size + t165.size ≤ 9223372036854775807) = true := decide_eq_true c7
     try have c7b2 : (9223372036854775807 < t163.size + t165.size) = False := eq_false (Nat.not_lt.2 c7)
     by_cases c8 : (t163 ++ t165).size + 1 ≤ 9223372036854775807
     ·
      rw [if_pos c8] at H
      have c8b0 := eq_true c8
      have c8b1 : decide ((t163 ++ t165).size + 1 ≤ 9223372036854775807) = true := decide_eq_true c8
      have c8b4 : t163.size + t165.size + 1 ≤ 9223372036854775807 := by have z_ := c8; (try simp only [ByteArray.size_append] at z_); exact z_
      have c8b5 : (9223372036854775807 < t163.size + t165.size + 1) = False := eq_false (Nat.not_lt.2 c8b4)
      try have c8b2 : (9223372036854775807 < (t163 ++ t165).size + 1) = False := eq_false (Nat.not_lt.2 c8)
      replace H := Option.bind_eq_some_iff.mp H
      obtain ⟨t166, A90, H⟩ := H
      replace H : (if ((t163 ++ t165) ++ (⟨#[46]⟩ : ByteArray)).size + t166.size ≤ 9223372036854775807 then ((assessorref46_Number.f kj1 (Int.tmod t164 10)).bind fun t167 => (if (((t163 ++ t165) ++ (⟨#[46]⟩ : ByteArray)) ++ t166).size + t167.size ≤ 9223372036854775807 then (some ((((t163 ++ t165) ++ (⟨#[46]⟩ : ByteArray)) ++ t166) ++ t167)) else (none))) else (none)) = some r := H
      have A9 := Aside0.mk A90
      clear A90
      by_cases c10 : ((t163 ++ t165) ++ (⟨#[46]⟩ : ByteArray)).size + t166.size ≤ 9223372036854775807
      ·
       rw [if_pos c10] at H
       have c10b0 := eq_true c10
       have c10b1 : decide (((t163 ++ t165) ++ (⟨#[46]⟩ : ByteArray)).size + t166.size ≤ 9223372036854775807) = true := decide_eq_true c10
       have c10b4 : t163.size + t165.size + 1 + t166.size ≤ 9223372036854775807 := by have z_ := c10; (try simp only [ByteArray.size_append] at z_); exact z_
       have c10b5 : (9223372036854775807 < t163.size + t165.size + 1 + t166.size) = False := eq_false (Nat.not_lt.2 c10b4)
       try have c10b2 : (9223372036854775807 < ((t163 ++ t165) ++ (⟨#[46]⟩ : ByteArray)).size + t166.size) = False := eq_false (Nat.not_lt.2 c10)
       replace H := Option.bind_eq_some_iff.mp H
       obtain ⟨t167, A110, H⟩ := H
       replace H : (if (((t163 ++ t165) ++ (⟨#[46]⟩ : ByteArray)) ++ t166).size + t167.size ≤ 9223372036854775807 then (some ((((t163 ++ t165) ++ (⟨#[46]⟩ : ByteArray)) ++ t166) ++ t167)) else (none)) = some r := H
       have A11 := Aside0.mk A110
       clear A110
       by_cases c12 : (((t163 ++ t165) ++ (⟨#[46]⟩ : ByteArray)) ++ t166).size + t167.size ≤ 9223372036854775807
       ·
        rw [if_pos c12] at H
        have c12b0 := eq_true c12
        have c12b1 : decide ((((t163 ++ t165) ++ (⟨#[46]⟩ : ByteArray)) ++ t166).size + t167.size ≤ 9223372036854775807) = true := decide_eq_true c12
        have c12b4 : t163.size + t165.size + 1 + t166.size + t167.size ≤ 9223372036854775807 := by have z_ := c12; (try simp only [ByteArray.size_append] at z_); exact z_
        have c12b5 : (9223372036854775807 < t163.size + t165.size + 1 + t166.size + t167.size) = False := eq_false (Nat.not_lt.2 c12b4)
        try have c12b2 : (9223372036854775807 < (((t163 ++ t165) ++ (⟨#[46]⟩ : ByteArray)) ++ t166).size + t167.size) = False := eq_false (Nat.not_lt.2 c12)
        obtain rfl := Option.some.inj H
        simp only [Option.some.injEq, Prod.mk.injEq] at H
        obtain ⟨rfl⟩ := H
        go_wp2_with (first | ((with_reducible refine gate_callee (f := 46) rfl ?_); refine goesL_ (some 13) rfl rfl Tryd.func46 (by kernel_rfl) rfl #[.int .i64 a0] rfl (by (try simp only [List.map_toArray, List.map_cons, List.map_nil]); first | done | rfl | (simp only [List.length_drop, List.length_take]; rfl)) ?_; (with_reducible refine (assessorref46_signed.calls a0 t163 t164 _ A5.out).mono ?_); rintro e w' ⟨rfl, ⟨nd, rfl⟩⟩; refine ⟨_, rfl, ?_⟩) | ((with_reducible refine gate_callee (f := 47) rfl ?_); refine goesL_ (some 19) rfl rfl Tryd.func47 (by kernel_rfl) rfl #[.int .i64 (wrap64 (Int.tdiv t164 100))] rfl (by (try simp only [List.map_toArray, List.map_cons, List.map_nil]); first | done | rfl | (simp only [List.length_drop, List.length_take]; rfl)) ?_; (with_reducible refine (assessorref46_Number.calls kj1 (wrap64 (Int.tdiv t164 100)) t165 _ A6.out).mono ?_); rintro e w13 ⟨rfl, hb⟩; refine ⟨_, rfl, ?_⟩; have n0_ := Aside0.mk (below_step (by repeat (first | (with_reducible first | exact HB.out | apply b4 | apply b5 | apply b6) | exact HB.out)) hb); clear HB; have HB := n0_; clear n0_; (try clear hb); (try clear hb2); (try clear hk); (try clear hi)) | ((with_reducible refine gate_callee (f := 47) rfl ?_); refine goesL_ (some 25) rfl rfl Tryd.func47 (by kernel_rfl) rfl #[.int .i64 (Int.tmod (wrap64 (Int.tdiv t164 10)) 10)] rfl (by (try simp only [List.map_toArray, List.map_cons, List.map_nil]); first | done | rfl | (simp only [List.length_drop, List.length_take]; rfl)) ?_; (with_reducible refine (assessorref46_Number.calls kj1 (Int.tmod (wrap64 (Int.tdiv t164 10)) 10) t166 _ A9.out).mono ?_); rintro e w14 ⟨rfl, hb⟩; refine ⟨_, rfl, ?_⟩; have n0_ := Aside0.mk (below_step (by repeat (first | (with_reducible first | exact HB.out | apply b4 | apply b5 | apply b6) | exact HB.out)) hb); clear HB; have HB := n0_; clear n0_; (try clear hb); (try clear hb2); (try clear hk); (try clear hi)) | ((with_reducible refine gate_callee (f := 47) rfl ?_); refine goesL_ (some 29) rfl rfl Tryd.func47 (by kernel_rfl) rfl #[.int .i64 (Int.tmod t164 10)] rfl (by (try simp only [List.map_toArray, List.map_cons, List.map_nil]); first | done | rfl | (simp only [List.length_drop, List.length_take]; rfl)) ?_; (with_reducible refine (assessorref46_Number.calls kj1 (Int.tmod t164 10) t167 _ A11.out).mono ?_); rintro e w15 ⟨rfl, hb⟩; refine ⟨_, rfl, ?_⟩; have n0_ := Aside0.mk (below_step (by repeat (first | (with_reducible first | exact HB.out | apply b4 | apply b5 | apply b6) | exact HB.out)) hb); clear HB; have HB := n0_; clear n0_; (try clear hb); (try clear hb2); (try clear hk); (try clear hi)))
        go_ret
        exact ⟨by first | rfl | (simp [errW_none, errW_some] <;> rfl) | (simp [*, errW_none, errW_some] <;> rfl), by repeat (first | (with_reducible first | exact HB.out | apply b4 | apply b5 | apply b6) | exact HB.out)⟩
       ·
        rw [if_neg c12] at H
        exact absurd H (by simp)
      ·
       rw [if_neg c10] at H
       exact absurd H (by simp)
     ·
      rw [if_neg c8] at H
      exact absurd H (by simp)
    ·
     rw [if_neg c7] at H
     exact absurd H (by simp)

end Go.Proofs.YtkfibjmjamdigaaDoor.Q


namespace Go.Proofs.YtkfibjmjamdigaaDoor.Q
set_option linter.unusedVariables false
open Go.RowKit Go.Proofs.YtkfibjmjamdigaaDoorW.PrintWords Go.Proofs.YtkfibjmjamdigaaDoorW.PrintLast Go.Proofs.YtkfibjmjamdigaaDoorW.PrintMore

def B (l : List UInt8) : ByteArray := ⟨l.toArray⟩
abbrev D := Lib.decDigits
def sgn (n : Int) : List UInt8 := if n < 0 then [45] else []
theorem refgcd_l0 (y : Nat) : ∀ (k x : Nat), y < k → assessorref46_gcd.l0 k (x : Int) (y : Int) = some ((Nat.gcd x y : Nat) : Int) := by
  induction y using Nat.strongRecOn with
  | ind y ih =>
    intro k x hk
    obtain ⟨k, rfl⟩ : ∃ m, k = m + 1 := ⟨k - 1, by omega⟩
    simp only [assessorref46_gcd.l0]
    by_cases h : y = 0
    · subst h
      rw [if_neg (by omega)]
      simp
    · rw [if_pos (by omega), if_neg (by omega)]
      have e : Int.tmod (x : Int) (y : Int) = ((x % y : Nat) : Int) := by rw [Int.tmod_eq_emod_of_nonneg (by omega)]; simp
      rw [e, ih (x % y) (Nat.mod_lt _ (by omega)) k y (by have := Nat.mod_lt x (by omega : y > 0); omega)]
      rw [Nat.gcd_comm y (x % y), ← Nat.gcd_rec y x, Nat.gcd_comm y x]
theorem refgcd_f {k : Nat} {a b : Int} (h1 : -9223372036854775807 ≤ a) (h2 : a ≤ 9223372036854775807) (hb : 0 ≤ b) (hk : b + 1 < k) : assessorref46_gcd.f k a b = some ((Nat.gcd a.natAbs b.natAbs : Nat) : Int) := by
  obtain ⟨k, rfl⟩ : ∃ m, k = m + 1 := ⟨k - 1, by omega⟩
  unfold assessorref46_gcd.f
  have := refgcd_l0 b.natAbs k a.natAbs (by omega)
  rw [show ((b.natAbs : Nat) : Int) = b by omega] at this
  by_cases h : a < 0
  · rw [if_pos h, w64 (by omega) (by omega)]
    simp only [assessorref46_gcd.j0]
    rwa [show -a = ((a.natAbs : Nat) : Int) by omega]
  · rw [if_neg h]
    simp only [assessorref46_gcd.j0]
    rwa [show ((a.natAbs : Nat) : Int) = a by omega] at this
theorem refvalid_f {k : Nat} (hk : 1000002 < k) (n d : Int) : assessorref46_Valid.f k n d = some (decide (V n d)) := by
  unfold assessorref46_Valid.f
  by_cases h1 : d ≥ 1
  · by_cases h2 : d ≤ 1000000
    · by_cases h3 : n ≥ -1000000000
      · by_cases h4 : n ≤ 1000000000
        · rw [if_pos h1, if_pos h2, if_pos h3, if_pos h4, refgcd_f (by omega) (by omega) (by omega) (by omega)]
          simp only [Option.bind_some, Option.some.injEq]
          rw [Bool.eq_iff_iff]
          rw [beq_iff_eq, decide_eq_true_eq]
          constructor
          · intro h
            exact ⟨h1, h2, h3, h4, by omega⟩
          · intro h
            have := h.2.2.2.2
            omega
        · rw [if_pos h1, if_pos h2, if_pos h3, if_neg h4]; exact congrArg some (decide_eq_false (fun h => h4 h.2.2.2.1)).symm
      · rw [if_pos h1, if_pos h2, if_neg h3]; exact congrArg some (decide_eq_false (fun h => h3 h.2.2.1)).symm
    · rw [if_pos h1, if_neg h2]; exact congrArg some (decide_eq_false (fun h => h2 h.2.1)).symm
  · rw [if_neg h1]; exact congrArg some (decide_eq_false (fun h => h1 h.1)).symm
end Go.Proofs.YtkfibjmjamdigaaDoor.Q

namespace Go.Proofs.YtkfibjmjamdigaaDoor.Q
open Go.RowKit Go.Proofs.YtkfibjmjamdigaaDoorW.PrintWords Go.Proofs.YtkfibjmjamdigaaDoorW.PrintLast Go.Proofs.YtkfibjmjamdigaaDoorW.PrintMore
attribute [local go_sem] max2_int min2_int max_two min_two max_three min_three max_four min_four   -- for this text's walks alone
set_option linter.unusedVariables false
set_option linter.unusedSimpArgs false


def assessorref46_Make.f (k : Nat) (a0 : Int) (a1 : Int) : Option (Int × Int × Int) := if a1 = 0 then (some (0, 0, 1)) else (if a0 < (-1000000000000000) then (some (0, 0, 2)) else (if a0 > 1000000000000000 then (some (0, 0, 2)) else (if a1 < (-1000000000000000) then (some (0, 0, 2)) else (if a1 > 1000000000000000 then (some (0, 0, 2)) else ((assessorref46_reduce.f k a0 a1).bind fun bt139 => (some (bt139.1, bt139.2.1, bt139.2.2)))))))
theorem assessorref46_Make.mono : ∀ a0 a1 k, LeO (assessorref46_Make.f k a0 a1) (assessorref46_Make.f (k + 1) a0 a1) := by
 intro a0 a1 k
 unfold assessorref46_Make.f
 repeat' first
   | (with_reducible exact assessorref46_reduce.mono _ _ _)
   | (with_reducible exact LeO.refl _)
   | (with_reducible exact LeO.none _)
   | (with_reducible refine LeO.ite ?_ ?_)
   | (with_reducible refine LeO.bind ?_ (fun _ => ?_))
   | exact assessorref46_reduce.mono _ _ _
   | exact LeO.none _
   | refine LeO.ite ?_ ?_
   | refine LeO.bind ?_ (fun _ => ?_)
set_option maxHeartbeats 8000000 in
set_option maxRecDepth 100000 in
theorem assessorref46_Make.calls (k : Nat) (a0 : Int) (a1 : Int) (r1 : Int) (r2 : Int) (r3 : Int) (w : World) (h : assessorref46_Make.f k a0 a1 = some (r1, r2, r3)) :
  Calls Tryd.prog 12 #[.int .i64 a0, .int .i64 a1] w fun e w' => e = .returned (.tuple #[.agg #[.int .i64 r1, .int .i64 r2], .int .i64 r3]) ∧ Below w.heap.size w w' := by
 have hu23 := Tryd.underlying23
 have HB := Aside0.mk (Below.refl w.heap.size w)
 have H : (if a1 = 0 then (some (0, 0, 1)) else (if a0 < (-1000000000000000) then (some (0, 0, 2)) else (if a0 > 1000000000000000 then (some (0, 0, 2)) else (if a1 < (-1000000000000000) then (some (0, 0, 2)) else (if a1 > 1000000000000000 then (some (0, 0, 2)) else ((assessorref46_reduce.f k a0 a1).bind fun bt139 => (some (bt139.1, bt139.2.1, bt139.2.2)))))))) = some (r1, r2, r3) := h
 clear h
 by_cases c3 : a1 = 0
 ·
  rw [if_pos c3] at H
  have c3b0 : (a1 == 0) = true := beq_iff_eq.mpr c3
  have c3b1 : (a1 != 0) = false := bne_eq_false_iff_eq.mpr c3
  clear c3
  simp only [Option.some.injEq, Prod.mk.injEq] at H
  obtain ⟨rfl, rfl, rfl⟩ := H
  go_enter Tryd.func12, Tryd.ntmps12
  go_wp2_with (first | ((with_reducible refine gate_dst (N := 4) rfl ?_); refine box_event ?hg (N := 4) ?hd (cs := #[.int .i64 0, .int .i64 0]) (t := 23) ?hr ?_; (case hd => rfl); (case hg => rfl); (case hr => first | (go_simp; done) | (go_simp; rfl)); intro gb138 hg w4 hbox hb; have n0_ := Aside0.mk (below_step (by repeat (first | (with_reducible first | exact HB.out | apply b4 | apply b5 | apply b6) | exact HB.out)) hb); have n1_ := Aside0.mk (hbox); have n2_ := Aside0.mk ((by rw [hg]; exact (below_size (by repeat (first | (with_reducible first | exact HB.out | apply b4 | apply b5 | apply b6) | exact HB.out))) : w.heap.size ≤ gb138)); have n3_ := Aside0.mk ((by rw [hg]; exact (below_size (by repeat (first | (with_reducible first | exact HB.out | apply b4 | apply b5 | apply b6) | exact HB.out))) : w.heap.size ≤ gb138)); clear HB; have HB := n0_; have BK138 := n1_; have GW138 := n2_; have GE138 := n3_; clear n0_ n1_ n2_ n3_; clear hb hbox hg; have hcz5_0 : w4.cell? ⟨gb138, 0, none⟩ = some (.int .i64 0) := (blk_cell BK138.out 0).trans rfl; have hcz5_1 : w4.cell? ⟨gb138, 1, none⟩ = some (.int .i64 0) := (blk_cell BK138.out 1).trans rfl; have hfz5_0 := blk_frozen BK138.out 0; have hfz5_1 := blk_frozen BK138.out 1))
  refine bodyPost_ret (results_ct rfl _ _ gb138 23 #[.int .i64 0, .int .i64 0] (0, 0) _ rfl (by (with_reducible repeat first | apply b1 | apply b2 | apply b3); refine blk_put (cs := #[.int .i64 0, .int .i64 0]) ?_ 1 _ rfl; (with_reducible repeat first | apply b1 | apply b2 | apply b3); refine blk_put (cs := #[.int .i64 0, .int .i64 0]) ?_ 0 _ rfl; (with_reducible repeat first | apply b1 | apply b2 | apply b3); exact BK138.out) Tryd.underlying23 rfl (by kernel_rfl)) rfl ?_
  exact ⟨by first | rfl | (simp [errW_none, errW_some] <;> rfl) | (simp [*, errW_none, errW_some] <;> rfl), by repeat (first | (with_reducible first | exact HB.out | apply b4 | apply b5 | apply b6 | refine below_set ?_ GE138.out) | exact HB.out)⟩
 ·
  rw [if_neg c3] at H
  have c3b0 : (a1 == 0) = false := beq_eq_false_iff_ne.mpr c3
  have c3b1 : (a1 != 0) = true := bne_iff_ne.mpr c3
  by_cases c6 : a0 < (-1000000000000000)
  ·
   rw [if_pos c6] at H
   have c6b0 : decide (a0 < (-1000000000000000)) = true := decide_eq_true c6
   clear c6
   simp only [Option.some.injEq, Prod.mk.injEq] at H
   obtain ⟨rfl, rfl, rfl⟩ := H
   go_enter Tryd.func12, Tryd.ntmps12
   go_wp2_with (first | ((with_reducible refine gate_dst (N := 4) rfl ?_); refine box_event ?hg (N := 4) ?hd (cs := #[.int .i64 0, .int .i64 0]) (t := 23) ?hr ?_; (case hd => rfl); (case hg => rfl); (case hr => first | (go_simp; done) | (go_simp; rfl)); intro gb138 hg w7 hbox hb; have n0_ := Aside0.mk (below_step (by repeat (first | (with_reducible first | exact HB.out | apply b4 | apply b5 | apply b6) | exact HB.out)) hb); have n1_ := Aside0.mk (hbox); have n2_ := Aside0.mk ((by rw [hg]; exact (below_size (by repeat (first | (with_reducible first | exact HB.out | apply b4 | apply b5 | apply b6) | exact HB.out))) : w.heap.size ≤ gb138)); have n3_ := Aside0.mk ((by rw [hg]; exact (below_size (by repeat (first | (with_reducible first | exact HB.out | apply b4 | apply b5 | apply b6) | exact HB.out))) : w.heap.size ≤ gb138)); clear HB; have HB := n0_; have BK138 := n1_; have GW138 := n2_; have GE138 := n3_; clear n0_ n1_ n2_ n3_; clear hb hbox hg; have hcz8_0 : w7.cell? ⟨gb138, 0, none⟩ = some (.int .i64 0) := (blk_cell BK138.out 0).trans rfl; have hcz8_1 : w7.cell? ⟨gb138, 1, none⟩ = some (.int .i64 0) := (blk_cell BK138.out 1).trans rfl; have hfz8_0 := blk_frozen BK138.out 0; have hfz8_1 := blk_frozen BK138.out 1))
   refine bodyPost_ret (results_ct rfl _ _ gb138 23 #[.int .i64 0, .int .i64 0] (0, 0) _ rfl (by (with_reducible repeat first | apply b1 | apply b2 | apply b3); refine blk_put (cs := #[.int .i64 0, .int .i64 0]) ?_ 1 _ rfl; (with_reducible repeat first | apply b1 | apply b2 | apply b3); refine blk_put (cs := #[.int .i64 0, .int .i64 0]) ?_ 0 _ rfl; (with_reducible repeat first | apply b1 | apply b2 | apply b3); exact BK138.out) Tryd.underlying23 rfl (by kernel_rfl)) rfl ?_
   exact ⟨by first | rfl | (simp [errW_none, errW_some] <;> rfl) | (simp [*, errW_none, errW_some] <;> rfl), by repeat (first | (with_reducible first | exact HB.out | apply b4 | apply b5 | apply b6 | refine below_set ?_ GE138.out) | exact HB.out)⟩
  ·
   rw [if_neg c6] at H
   have c6b0 : decide (a0 < (-1000000000000000)) = false := decide_eq_false c6
   clear c6
   by_cases c9 : a0 > 1000000000000000
   ·
    rw [if_pos c9] at H
    have c9b0 : decide (1000000000000000 < a0) = true := decide_eq_true c9
    clear c9
    simp only [Option.some.injEq, Prod.mk.injEq] at H
    obtain ⟨rfl, rfl, rfl⟩ := H
    go_enter Tryd.func12, Tryd.ntmps12
    go_wp2_with (first | ((with_reducible refine gate_dst (N := 4) rfl ?_); refine box_event ?hg (N := 4) ?hd (cs := #[.int .i64 0, .int .i64 0]) (t := 23) ?hr ?_; (case hd => rfl); (case hg => rfl); (case hr => first | (go_simp; done) | (go_simp; rfl)); intro gb138 hg w10 hbox hb; have n0_ := Aside0.mk (below_step (by repeat (first | (with_reducible first | exact HB.out | apply b4 | apply b5 | apply b6) | exact HB.out)) hb); have n1_ := Aside0.mk (hbox); have n2_ := Aside0.mk ((by rw [hg]; exact (below_size (by repeat (first | (with_reducible first | exact HB.out | apply b4 | apply b5 | apply b6) | exact HB.out))) : w.heap.size ≤ gb138)); have n3_ := Aside0.mk ((by rw [hg]; exact (below_size (by repeat (first | (with_reducible first | exact HB.out | apply b4 | apply b5 | apply b6) | exact HB.out))) : w.heap.size ≤ gb138)); clear HB; have HB := n0_; have BK138 := n1_; have GW138 := n2_; have GE138 := n3_; clear n0_ n1_ n2_ n3_; clear hb hbox hg; have hcz11_0 : w10.cell? ⟨gb138, 0, none⟩ = some (.int .i64 0) := (blk_cell BK138.out 0).trans rfl; have hcz11_1 : w10.cell? ⟨gb138, 1, none⟩ = some (.int .i64 0) := (blk_cell BK138.out 1).trans rfl; have hfz11_0 := blk_frozen BK138.out 0; have hfz11_1 := blk_frozen BK138.out 1))
    refine bodyPost_ret (results_ct rfl _ _ gb138 23 #[.int .i64 0, .int .i64 0] (0, 0) _ rfl (by (with_reducible repeat first | apply b1 | apply b2 | apply b3); refine blk_put (cs := #[.int .i64 0, .int .i64 0]) ?_ 1 _ rfl; (with_reducible repeat first | apply b1 | apply b2 | apply b3); refine blk_put (cs := #[.int .i64 0, .int .i64 0]) ?_ 0 _ rfl; (with_reducible repeat first | apply b1 | apply b2 | apply b3); exact BK138.out) Tryd.underlying23 rfl (by kernel_rfl)) rfl ?_
    exact ⟨by first | rfl | (simp [errW_none, errW_some] <;> rfl) | (simp [*, errW_none, errW_some] <;> rfl), by repeat (first | (with_reducible first | exact HB.out | apply b4 | apply b5 | apply b6 | refine below_set ?_ GE138.out) | exact HB.out)⟩
   ·
    rw [if_neg c9] at H
    have c9b0 : decide (1000000000000000 < a0) = false := decide_eq_false c9
    clear c9
    by_cases c12 : a1 < (-1000000000000000)
    ·
     rw [if_pos c12] at H
     have c12b0 : decide (a1 < (-1000000000000000)) = true := decide_eq_true c12
     clear c12
     simp only [Option.some.injEq, Prod.mk.injEq] at H
     obtain ⟨rfl, rfl, rfl⟩ := H
     go_enter Tryd.func12, Tryd.ntmps12
     go_wp2_with (first | ((with_reducible refine gate_dst (N := 4) rfl ?_); refine box_event ?hg (N := 4) ?hd (cs := #[.int .i64 0, .int .i64 0]) (t := 23) ?hr ?_; (case hd => rfl); (case hg => rfl); (case hr => first | (go_simp; done) | (go_simp; rfl)); intro gb138 hg w13 hbox hb; have n0_ := Aside0.mk (below_step (by repeat (first | (with_reducible first | exact HB.out | apply b4 | apply b5 | apply b6) | exact HB.out)) hb); have n1_ := Aside0.mk (hbox); have n2_ := Aside0.mk ((by rw [hg]; exact (below_size (by repeat (first | (with_reducible first | exact HB.out | apply b4 | apply b5 | apply b6) | exact HB.out))) : w.heap.size ≤ gb138)); have n3_ := Aside0.mk ((by rw [hg]; exact (below_size (by repeat (first | (with_reducible first | exact HB.out | apply b4 | apply b5 | apply b6) | exact HB.out))) : w.heap.size ≤ gb138)); clear HB; have HB := n0_; have BK138 := n1_; have GW138 := n2_; have GE138 := n3_; clear n0_ n1_ n2_ n3_; clear hb hbox hg; have hcz14_0 : w13.cell? ⟨gb138, 0, none⟩ = some (.int .i64 0) := (blk_cell BK138.out 0).trans rfl; have hcz14_1 : w13.cell? ⟨gb138, 1, none⟩ = some (.int .i64 0) := (blk_cell BK138.out 1).trans rfl; have hfz14_0 := blk_frozen BK138.out 0; have hfz14_1 := blk_frozen BK138.out 1))
     refine bodyPost_ret (results_ct rfl _ _ gb138 23 #[.int .i64 0, .int .i64 0] (0, 0) _ rfl (by (with_reducible repeat first | apply b1 | apply b2 | apply b3); refine blk_put (cs := #[.int .i64 0, .int .i64 0]) ?_ 1 _ rfl; (with_reducible repeat first | apply b1 | apply b2 | apply b3); refine blk_put (cs := #[.int .i64 0, .int .i64 0]) ?_ 0 _ rfl; (with_reducible repeat first | apply b1 | apply b2 | apply b3); exact BK138.out) Tryd.underlying23 rfl (by kernel_rfl)) rfl ?_
     exact ⟨by first | rfl | (simp [errW_none, errW_some] <;> rfl) | (simp [*, errW_none, errW_some] <;> rfl), by repeat (first | (with_reducible first | exact HB.out | apply b4 | apply b5 | apply b6 | refine below_set ?_ GE138.out) | exact HB.out)⟩
    ·
     rw [if_neg c12] at H
     have c12b0 : decide (a1 < (-1000000000000000)) = false := decide_eq_false c12
     clear c12
     by_cases c15 : a1 > 1000000000000000
     ·
      rw [if_pos c15] at H
      have c15b0 : decide (1000000000000000 < a1) = true := decide_eq_true c15
      clear c15
      simp only [Option.some.injEq, Prod.mk.injEq] at H
      obtain ⟨rfl, rfl, rfl⟩ := H
      go_enter Tryd.func12, Tryd.ntmps12
      go_wp2_with (first | ((with_reducible refine gate_dst (N := 4) rfl ?_); refine box_event ?hg (N := 4) ?hd (cs := #[.int .i64 0, .int .i64 0]) (t := 23) ?hr ?_; (case hd => rfl); (case hg => rfl); (case hr => first | (go_simp; done) | (go_simp; rfl)); intro gb138 hg w16 hbox hb; have n0_ := Aside0.mk (below_step (by repeat (first | (with_reducible first | exact HB.out | apply b4 | apply b5 | apply b6) | exact HB.out)) hb); have n1_ := Aside0.mk (hbox); have n2_ := Aside0.mk ((by rw [hg]; exact (below_size (by repeat (first | (with_reducible first | exact HB.out | apply b4 | apply b5 | apply b6) | exact HB.out))) : w.heap.size ≤ gb138)); have n3_ := Aside0.mk ((by rw [hg]; exact (below_size (by repeat (first | (with_reducible first | exact HB.out | apply b4 | apply b5 | apply b6) | exact HB.out))) : w.heap.size ≤ gb138)); clear HB; have HB := n0_; have BK138 := n1_; have GW138 := n2_; have GE138 := n3_; clear n0_ n1_ n2_ n3_; clear hb hbox hg; have hcz17_0 : w16.cell? ⟨gb138, 0, none⟩ = some (.int .i64 0) := (blk_cell BK138.out 0).trans rfl; have hcz17_1 : w16.cell? ⟨gb138, 1, none⟩ = some (.int .i64 0) := (blk_cell BK138.out 1).trans rfl; have hfz17_0 := blk_frozen BK138.out 0; have hfz17_1 := blk_frozen BK138.out 1))
      refine bodyPost_ret (results_ct rfl _ _ gb138 23 #[.int .i64 0, .int .i64 0] (0, 0) _ rfl (by (with_reducible repeat first | apply b1 | apply b2 | apply b3); refine blk_put (cs := #[.int .i64 0, .int .i64 0]) ?_ 1 _ rfl; (with_reducible repeat first | apply b1 | apply b2 | apply b3); refine blk_put (cs := #[.int .i64 0, .int .i64 0]) ?_ 0 _ rfl; (with_reducible repeat first | apply b1 | apply b2 | apply b3); exact BK138.out) Tryd.underlying23 rfl (by kernel_rfl)) rfl ?_
      exact ⟨by first | rfl | (simp [errW_none, errW_some] <;> rfl) | (simp [*, errW_none, errW_some] <;> rfl), by repeat (first | (with_reducible first | exact HB.out | apply b4 | apply b5 | apply b6 | refine below_set ?_ GE138.out) | exact HB.out)⟩
     ·
      rw [if_neg c15] at H
      have c15b0 : decide (1000000000000000 < a1) = false := decide_eq_false c15
      clear c15
      replace H := Option.bind_eq_some_iff.mp H
      obtain ⟨⟨t139, t140, t141⟩, A180, H⟩ := H
      replace H : (some (t139, t140, t141)) = some (r1, r2, r3) := H
      have A18 := Aside0.mk A180
      clear A180
      simp only [Option.some.injEq, Prod.mk.injEq] at H
      obtain ⟨rfl, rfl, rfl⟩ := H
      go_enter Tryd.func12, Tryd.ntmps12
      go_wp2_with (first | ((with_reducible refine gate_dst (N := 4) rfl ?_); refine box_event ?hg (N := 4) ?hd (cs := #[.int .i64 0, .int .i64 0]) (t := 23) ?hr ?_; (case hd => rfl); (case hg => rfl); (case hr => first | (go_simp; done) | (go_simp; rfl)); intro gb138 hg w19 hbox hb; have n0_ := Aside0.mk (below_step (by repeat (first | (with_reducible first | exact HB.out | apply b4 | apply b5 | apply b6) | exact HB.out)) hb); have n1_ := Aside0.mk (hbox); have n2_ := Aside0.mk ((by rw [hg]; exact (below_size (by repeat (first | (with_reducible first | exact HB.out | apply b4 | apply b5 | apply b6) | exact HB.out))) : w.heap.size ≤ gb138)); have n3_ := Aside0.mk ((by rw [hg]; exact (below_size (by repeat (first | (with_reducible first | exact HB.out | apply b4 | apply b5 | apply b6) | exact HB.out))) : w.heap.size ≤ gb138)); clear HB; have HB := n0_; have BK138 := n1_; have GW138 := n2_; have GE138 := n3_; clear n0_ n1_ n2_ n3_; clear hb hbox hg) | ((with_reducible refine gate_callee (f := 43) rfl ?_); refine goesL_ (some 26) rfl rfl Tryd.func43 (by kernel_rfl) rfl #[.int .i64 a0, .int .i64 a1] rfl (by (try simp only [List.map_toArray, List.map_cons, List.map_nil]); first | done | rfl | (simp only [List.length_drop, List.length_take]; rfl)) ?_; (with_reducible refine (assessorref46_reduce.calls k a0 a1 t139 t140 t141 _ A18.out).mono ?_); rintro e w20 ⟨rfl, hb⟩; refine ⟨_, rfl, ?_⟩; have n0_ := Aside0.mk (blk_below (g := gb138) (o := .cells #[.int .i64 0, .int .i64 0] 23 (0, 0)) (by (with_reducible repeat first | apply b1 | apply b2 | apply b3); exact BK138.out) hb); have n1_ := Aside0.mk (below_step (by repeat (first | (with_reducible first | exact HB.out | apply b4 | apply b5 | apply b6 | refine below_set ?_ GE138.out) | exact HB.out)) hb); clear BK138; clear HB; have BK138 := n0_; have HB := n1_; clear n0_ n1_; (try clear hb); (try clear hb2); (try clear hk); (try clear hi); have hcz21_0 : w20.cell? ⟨gb138, 0, none⟩ = some (.int .i64 0) := (blk_cell BK138.out 0).trans rfl; have hcz21_1 : w20.cell? ⟨gb138, 1, none⟩ = some (.int .i64 0) := (blk_cell BK138.out 1).trans rfl; have hfz21_0 := blk_frozen BK138.out 0; have hfz21_1 := blk_frozen BK138.out 1))
      refine bodyPost_ret (results_ct rfl _ _ gb138 23 #[.int .i64 t139, .int .i64 t140] (0, 0) _ rfl (by (with_reducible repeat first | apply b1 | apply b2 | apply b3); refine blk_put (cs := #[.int .i64 t139, .int .i64 0]) ?_ 1 _ rfl; (with_reducible repeat first | apply b1 | apply b2 | apply b3); refine blk_put (cs := #[.int .i64 0, .int .i64 0]) ?_ 0 _ rfl; (with_reducible repeat first | apply b1 | apply b2 | apply b3); exact BK138.out) Tryd.underlying23 rfl (by kernel_rfl)) rfl ?_
      exact ⟨by first | rfl | (simp [errW_none, errW_some] <;> rfl) | (simp [*, errW_none, errW_some] <;> rfl), by repeat (first | (with_reducible first | exact HB.out | apply b4 | apply b5 | apply b6 | refine below_set ?_ GE138.out) | exact HB.out)⟩

end Go.Proofs.YtkfibjmjamdigaaDoor.Q


namespace Go.Proofs.YtkfibjmjamdigaaDoor.Q
set_option linter.unusedVariables false
open Go.RowKit Go.Proofs.YtkfibjmjamdigaaDoorW.PrintWords Go.Proofs.YtkfibjmjamdigaaDoorW.PrintLast Go.Proofs.YtkfibjmjamdigaaDoorW.PrintMore
def refTail (n d t : Int) : Option (Int × Int × Int) := if t = 0 then none else (if (wrap64 (Int.tdiv n t)) < (-1000000000) then (some (0, 0, 2)) else (if (wrap64 (Int.tdiv n t)) > 1000000000 then (some (0, 0, 2)) else (if (wrap64 (Int.tdiv d t)) > 1000000 then (some (0, 0, 2)) else (some (wrap64 (Int.tdiv n t), wrap64 (Int.tdiv d t), 0)))))
theorem refTail_red {n d g : Int} (hd : 1 ≤ d) (hn1 : -4611686018427387904 ≤ n) (hn2 : n ≤ 4611686018427387904) (hd2 : d ≤ 4611686018427387904) (hg : g = ((Nat.gcd n.natAbs d.natAbs : Nat) : Int)) :
    ∃ r1 r2 r3, refTail n d g = some (r1, r2, r3) ∧ Red n d r1 r2 r3 := by
  obtain ⟨h1, _, _, h4, h5, h6, h7⟩ := red_pos hd hg
  obtain ⟨a, b⟩ := red_of hd hg
  have w1 : wrap64 (Int.tdiv n g) = Int.tdiv n g := w64 (by omega) (by omega)
  have w2 : wrap64 (Int.tdiv d g) = Int.tdiv d g := w64 (by omega) (by omega)
  have h0 : ¬ g = 0 := by clear w1 w2; omega
  rw [refTail, if_neg h0, w1, w2]
  clear w1 w2
  generalize Int.tdiv n g = x at *
  generalize Int.tdiv d g = y at *
  by_cases c1 : x < -1000000000
  · rw [if_pos c1]; exact ⟨_, _, _, rfl, b (fun hv => by have := hv.2.2.1; omega)⟩
  · by_cases c2 : x > 1000000000
    · rw [if_neg c1, if_pos c2]; exact ⟨_, _, _, rfl, b (fun hv => by have := hv.2.2.2.1; omega)⟩
    · by_cases c3 : y > 1000000
      · rw [if_neg c1, if_neg c2, if_pos c3]; exact ⟨_, _, _, rfl, b (fun hv => by have := hv.2.1; omega)⟩
      · rw [if_neg c1, if_neg c2, if_neg c3]; exact ⟨_, _, _, rfl, a ⟨h4, by omega, by omega, by omega, h5⟩⟩
theorem refreduce_red {k : Nat} {n d : Int} (hd : d ≠ 0) (hn1 : -4611686018427387904 ≤ n) (hn2 : n ≤ 4611686018427387904) (hd1 : -4611686018427387904 ≤ d) (hd2 : d ≤ 4611686018427387904) (hk : 4611686018427387909 < k) :
    ∃ r1 r2 r3, assessorref46_reduce.f k n d = some (r1, r2, r3) ∧ Red n d r1 r2 r3 := by
  by_cases h : d < 0
  · obtain ⟨r1, r2, r3, e, hr⟩ := refTail_red (n := -n) (d := -d) (by omega) (by omega) (by omega) (by omega) rfl
    have g := refgcd_f (k := k) (a := -n) (b := -d) (by omega) (by omega) (by omega) (by omega)
    have w1 : wrap64 (-n) = -n := w64 (by omega) (by omega)
    have w2 : wrap64 (-d) = -d := w64 (by omega) (by omega)
    refine ⟨r1, r2, r3, ?_, hr.neg⟩
    rw [assessorref46_reduce.f, if_pos h, w1, w2, g, Option.bind_some]
    exact e
  · obtain ⟨r1, r2, r3, e, hr⟩ := refTail_red (n := n) (d := d) (by omega) (by omega) (by omega) (by omega) rfl
    have g := refgcd_f (k := k) (a := n) (b := d) (by omega) (by omega) (by omega) (by omega)
    refine ⟨r1, r2, r3, ?_, hr⟩
    rw [assessorref46_reduce.f, if_neg h, g, Option.bind_some]
    exact e
theorem reductions {k : Nat} {n d : Int} (hd : d ≠ 0) (hn1 : -4611686018427387904 ≤ n) (hn2 : n ≤ 4611686018427387904) (hd1 : -4611686018427387904 ≤ d) (hd2 : d ≤ 4611686018427387904) (hk : 4611686018427387909 < k) :
    ∃ r, fraction_reduced.f k n d = some r ∧ assessorref46_reduce.f k n d = some r := by
  obtain ⟨r1, r2, r3, e, hr⟩ := reduced_red hd hn1 hn2 hd1 hd2 hk
  obtain ⟨s1, s2, s3, e', hs⟩ := refreduce_red hd hn1 hn2 hd1 hd2 hk
  obtain ⟨rfl, rfl, rfl⟩ := hr.unique hd hs
  exact ⟨_, e, e'⟩
end Go.Proofs.YtkfibjmjamdigaaDoor.Q


namespace Go.Proofs.YtkfibjmjamdigaaDoor.Q
set_option linter.unusedVariables false
open Go.RowKit Go.Proofs.YtkfibjmjamdigaaDoorW.PrintWords Go.Proofs.YtkfibjmjamdigaaDoorW.PrintLast Go.Proofs.YtkfibjmjamdigaaDoorW.PrintMore
end Go.Proofs.YtkfibjmjamdigaaDoor.Q


namespace Go.Proofs.YtkfibjmjamdigaaDoor.Q
set_option linter.unusedVariables false
open Go.RowKit Go.Proofs.YtkfibjmjamdigaaDoorW.PrintWords Go.Proofs.YtkfibjmjamdigaaDoorW.PrintLast Go.Proofs.YtkfibjmjamdigaaDoorW.PrintMore
theorem reductions7 {n d : Int} (hd : d ≠ 0) (hn1 : -4611686018427387904 ≤ n) (hn2 : n ≤ 4611686018427387904) (hd1 : -4611686018427387904 ≤ d) (hd2 : d ≤ 4611686018427387904) :
    ∃ r, ∀ k, 4611686018427387910 ≤ k → fraction_reduced.f k n d = some r ∧ assessorref46_reduce.f k n d = some r := by
  obtain ⟨r, e1, e2⟩ := reductions (k := 4611686018427387910) hd hn1 hn2 hd1 hd2 (by omega)
  exact ⟨r, fun k hk => ⟨mono_le (f := fun k => fraction_reduced.f k n d) (fun k => fraction_reduced.mono n d k) hk _ e1, mono_le (f := fun k => assessorref46_reduce.f k n d) (fun k => assessorref46_reduce.mono n d k) hk _ e2⟩⟩
theorem V.neg {n d : Int} : V (-n) d ↔ V n d := by
  unfold V
  rw [Int.natAbs_neg]
  constructor <;> rintro ⟨h1, h2, h3, h4, h5⟩ <;> exact ⟨h1, h2, by omega, by omega, h5⟩
theorem vbounds {a b c d : Int} (h : V a b) (g : V c d) : (-1000000000000000 ≤ a * d ∧ a * d ≤ 1000000000000000) ∧ (-1000000000000000 ≤ c * b ∧ c * b ≤ 1000000000000000) ∧ (1 ≤ b * d ∧ b * d ≤ 1000000000000) ∧ (-1000000000000000000 ≤ a * c ∧ a * c ≤ 1000000000000000000) ∧ (-1000000000000000 ≤ b * c ∧ b * c ≤ 1000000000000000) := by
  obtain ⟨h1, h2, h3, h4, _⟩ := h
  obtain ⟨g1, g2, g3, g4, _⟩ := g
  have p1 := prod_bound (x := a) (y := d) (X := 1000000000) (Y := 1000000) (by omega) (by omega) (by omega) (by omega)
  have p2 := prod_bound (x := c) (y := b) (X := 1000000000) (Y := 1000000) (by omega) (by omega) (by omega) (by omega)
  have p3 := prod_bound (x := b) (y := d) (X := 1000000) (Y := 1000000) (by omega) (by omega) (by omega) (by omega)
  have p4 := prod_bound (x := a) (y := c) (X := 1000000000) (Y := 1000000000) (by omega) (by omega) (by omega) (by omega)
  have p5 := prod_bound (x := b) (y := c) (X := 1000000) (Y := 1000000000) (by omega) (by omega) (by omega) (by omega)
  have p6 : 0 < b * d := Int.mul_pos (by omega) (by omega)
  exact ⟨by omega, by omega, by omega, by omega, by omega⟩
def SameR (f g : Nat → Option (Int × Int × Int)) : Prop := ∃ r, ∀ k, 4611686018427387911 ≤ k → f k = some r ∧ g k = some r
theorem add_same (a b c d : Int) : SameR (fun k => fraction_Add.f k a b c d) (fun k => assessorref46_Add.f k a b c d) := by
  by_cases h : V a b
  · by_cases g : V c d
    · obtain ⟨p1, p2, p3, p4, p5⟩ := vbounds h g
      have e1 := w64 (x := a * d) (by omega) (by omega)
      have e2 := w64 (x := c * b) (by omega) (by omega)
      have e3 := w64 (x := a * d + c * b) (by omega) (by omega)
      have e4 := w64 (x := b * d) (by omega) (by omega)
      obtain ⟨r, hr⟩ := reductions7 (n := a * d + c * b) (d := b * d) (by omega) (by omega) (by omega) (by omega) (by omega)
      have hz : ¬ (b * d = 0) := by omega
      refine ⟨r, fun k hk => ⟨?_, ?_⟩⟩
      · show fraction_Add.f k a b c d = some r
        rw [fraction_Add.f, valid_f (by omega), Option.bind_some, if_pos (decide_eq_true h), valid_f (by omega), Option.bind_some, if_pos (decide_eq_true g), e1, e2, e3, e4, if_neg hz]
        exact (hr k (by omega)).1
      · show assessorref46_Add.f k a b c d = some r
        rw [assessorref46_Add.f, refvalid_f (by omega), Option.bind_some, if_pos (decide_eq_true h), refvalid_f (by omega), Option.bind_some, if_pos (decide_eq_true g), e1, e2, e3, e4, (hr k (by omega)).2, Option.bind_some]
    · have hg : ¬ (decide (V c d) = true) := by rw [decide_eq_false g]; decide
      refine ⟨(0, 0, 1), fun k hk => ⟨?_, ?_⟩⟩
      · show fraction_Add.f k a b c d = _
        rw [fraction_Add.f, valid_f (by omega), Option.bind_some, if_pos (decide_eq_true h), valid_f (by omega), Option.bind_some, if_neg hg]
      · show assessorref46_Add.f k a b c d = _
        rw [assessorref46_Add.f, refvalid_f (by omega), Option.bind_some, if_pos (decide_eq_true h), refvalid_f (by omega), Option.bind_some, if_neg hg]
  · have hh : ¬ (decide (V a b) = true) := by rw [decide_eq_false h]; decide
    refine ⟨(0, 0, 1), fun k hk => ⟨?_, ?_⟩⟩
    · show fraction_Add.f k a b c d = _
      rw [fraction_Add.f, valid_f (by omega), Option.bind_some, if_neg hh]
    · show assessorref46_Add.f k a b c d = _
      rw [assessorref46_Add.f, refvalid_f (by omega), Option.bind_some, if_neg hh]
theorem mul_same (a b c d : Int) : SameR (fun k => fraction_Mul.f k a b c d) (fun k => assessorref46_Mul.f k a b c d) := by
  by_cases h : V a b
  · by_cases g : V c d
    · obtain ⟨p1, p2, p3, p4, p5⟩ := vbounds h g
      have e1 := w64 (x := a * c) (by omega) (by omega)
      have e4 := w64 (x := b * d) (by omega) (by omega)
      obtain ⟨r, hr⟩ := reductions7 (n := a * c) (d := b * d) (by omega) (by omega) (by omega) (by omega) (by omega)
      have hz : ¬ (b * d = 0) := by omega
      refine ⟨r, fun k hk => ⟨?_, ?_⟩⟩
      · show fraction_Mul.f k a b c d = some r
        rw [fraction_Mul.f, valid_f (by omega), Option.bind_some, if_pos (decide_eq_true h), valid_f (by omega), Option.bind_some, if_pos (decide_eq_true g), e1, e4, if_neg hz]
        exact (hr k (by omega)).1
      · show assessorref46_Mul.f k a b c d = some r
        rw [assessorref46_Mul.f, refvalid_f (by omega), Option.bind_some, if_pos (decide_eq_true h), refvalid_f (by omega), Option.bind_some, if_pos (decide_eq_true g), e1, e4, (hr k (by omega)).2, Option.bind_some]
    · have hg : ¬ (decide (V c d) = true) := by rw [decide_eq_false g]; decide
      refine ⟨(0, 0, 1), fun k hk => ⟨?_, ?_⟩⟩
      · show fraction_Mul.f k a b c d = _
        rw [fraction_Mul.f, valid_f (by omega), Option.bind_some, if_pos (decide_eq_true h), valid_f (by omega), Option.bind_some, if_neg hg]
      · show assessorref46_Mul.f k a b c d = _
        rw [assessorref46_Mul.f, refvalid_f (by omega), Option.bind_some, if_pos (decide_eq_true h), refvalid_f (by omega), Option.bind_some, if_neg hg]
  · have hh : ¬ (decide (V a b) = true) := by rw [decide_eq_false h]; decide
    refine ⟨(0, 0, 1), fun k hk => ⟨?_, ?_⟩⟩
    · show fraction_Mul.f k a b c d = _
      rw [fraction_Mul.f, valid_f (by omega), Option.bind_some, if_neg hh]
    · show assessorref46_Mul.f k a b c d = _
      rw [assessorref46_Mul.f, refvalid_f (by omega), Option.bind_some, if_neg hh]
theorem sub_same (a b c d : Int) : SameR (fun k => fraction_Sub.f k a b c d) (fun k => assessorref46_Sub.f k a b c d) := by
  by_cases g : V c d
  · have g' : V (-c) d := V.neg.2 g
    have e0 : wrap64 (-c) = -c := by obtain ⟨_, _, h3, h4, _⟩ := g; exact w64 (by omega) (by omega)
    by_cases h : V a b
    · obtain ⟨p1, p2, p3, p4, p5⟩ := vbounds h g
      have e1 := w64 (x := a * d) (by omega) (by omega)
      have e2 := w64 (x := c * b) (by omega) (by omega)
      have em : -c * b = -(c * b) := by grind
      have e2' : wrap64 (-c * b) = -(c * b) := by rw [em]; exact w64 (by omega) (by omega)
      have e3 := w64 (x := a * d - c * b) (by omega) (by omega)
      have e3' : wrap64 (a * d + -(c * b)) = a * d - c * b := w64 (by omega) (by omega)
      have e4 := w64 (x := b * d) (by omega) (by omega)
      obtain ⟨r, hr⟩ := reductions7 (n := a * d - c * b) (d := b * d) (by omega) (by omega) (by omega) (by omega) (by omega)
      have hz : ¬ (b * d = 0) := by omega
      refine ⟨r, fun k hk => ⟨?_, ?_⟩⟩
      · show fraction_Sub.f k a b c d = some r
        rw [fraction_Sub.f, valid_f (by omega), Option.bind_some, if_pos (decide_eq_true h), valid_f (by omega), Option.bind_some, if_pos (decide_eq_true g), e1, e2, e3, e4, if_neg hz]
        exact (hr k (by omega)).1
      · show assessorref46_Sub.f k a b c d = some r
        rw [assessorref46_Sub.f, assessorref46_Negate.f, refvalid_f (by omega), Option.bind_some, if_pos (decide_eq_true g), Option.bind_some, e0]
        show (assessorref46_Add.f k a b (-c) d).bind _ = some r
        rw [assessorref46_Add.f, refvalid_f (by omega), Option.bind_some, if_pos (decide_eq_true h), refvalid_f (by omega), Option.bind_some, if_pos (decide_eq_true g'), e1, e2', e3', e4, (hr k (by omega)).2, Option.bind_some, Option.bind_some]
    · have hh : ¬ (decide (V a b) = true) := by rw [decide_eq_false h]; decide
      refine ⟨(0, 0, 1), fun k hk => ⟨?_, ?_⟩⟩
      · show fraction_Sub.f k a b c d = _
        rw [fraction_Sub.f, valid_f (by omega), Option.bind_some, if_neg hh]
      · show assessorref46_Sub.f k a b c d = _
        rw [assessorref46_Sub.f, assessorref46_Negate.f, refvalid_f (by omega), Option.bind_some, if_pos (decide_eq_true g), Option.bind_some]
        show (assessorref46_Add.f k a b _ d).bind _ = _
        rw [assessorref46_Add.f, refvalid_f (by omega), Option.bind_some, if_neg hh, Option.bind_some]
  · have hg : ¬ (decide (V c d) = true) := by rw [decide_eq_false g]; decide
    by_cases h : V a b
    · refine ⟨(0, 0, 1), fun k hk => ⟨?_, ?_⟩⟩
      · show fraction_Sub.f k a b c d = _
        rw [fraction_Sub.f, valid_f (by omega), Option.bind_some, if_pos (decide_eq_true h), valid_f (by omega), Option.bind_some, if_neg hg]
      · show assessorref46_Sub.f k a b c d = _
        rw [assessorref46_Sub.f, assessorref46_Negate.f, refvalid_f (by omega), Option.bind_some, if_neg hg, Option.bind_some]
        show (assessorref46_Add.f k a b c d).bind _ = _
        rw [assessorref46_Add.f, refvalid_f (by omega), Option.bind_some, if_pos (decide_eq_true h), refvalid_f (by omega), Option.bind_some, if_neg hg, Option.bind_some]
    · have hh : ¬ (decide (V a b) = true) := by rw [decide_eq_false h]; decide
      refine ⟨(0, 0, 1), fun k hk => ⟨?_, ?_⟩⟩
      · show fraction_Sub.f k a b c d = _
        rw [fraction_Sub.f, valid_f (by omega), Option.bind_some, if_neg hh]
      · show assessorref46_Sub.f k a b c d = _
        rw [assessorref46_Sub.f, assessorref46_Negate.f, refvalid_f (by omega), Option.bind_some, if_neg hg, Option.bind_some]
        show (assessorref46_Add.f k a b c d).bind _ = _
        rw [assessorref46_Add.f, refvalid_f (by omega), Option.bind_some, if_neg hh, Option.bind_some]
theorem div_same (a b c d : Int) : SameR (fun k => fraction_Div.f k a b c d) (fun k => assessorref46_Div.f k a b c d) := by
  by_cases h : V a b
  · by_cases g : V c d
    · obtain ⟨p1, p2, p3, p4, p5⟩ := vbounds h g
      have e1 := w64 (x := a * d) (by omega) (by omega)
      have e4 := w64 (x := b * c) (by omega) (by omega)
      by_cases hc : c = 0
      · subst hc
        have hz : wrap64 (b * 0) = 0 := by rw [e4]; omega
        refine ⟨(0, 0, 2), fun k hk => ⟨?_, ?_⟩⟩
        · show fraction_Div.f k a b 0 d = _
          rw [fraction_Div.f, valid_f (by omega), Option.bind_some, if_pos (decide_eq_true h), valid_f (by omega), Option.bind_some, if_pos (decide_eq_true g), if_pos hz]
        · show assessorref46_Div.f k a b 0 d = _
          obtain ⟨k, rfl⟩ : ∃ m, k = m + 1 := ⟨k - 1, by omega⟩
          rw [assessorref46_Div.f, refvalid_f (by omega), Option.bind_some, if_pos (decide_eq_true h), refvalid_f (by omega), Option.bind_some, decide_eq_true g, assessorref46_Div.j0, if_neg (show ¬ ((!true) = true) by decide), if_pos rfl]
      · have hb : b ≠ 0 := by have := h.1; omega
        have hz : b * c ≠ 0 := Int.mul_ne_zero hb hc
        obtain ⟨r, hr⟩ := reductions7 (n := a * d) (d := b * c) hz (by omega) (by omega) (by omega) (by omega)
        refine ⟨r, fun k hk => ⟨?_, ?_⟩⟩
        · show fraction_Div.f k a b c d = _
          rw [fraction_Div.f, valid_f (by omega), Option.bind_some, if_pos (decide_eq_true h), valid_f (by omega), Option.bind_some, if_pos (decide_eq_true g), e1, e4, if_neg hz]
          exact (hr k (by omega)).1
        · show assessorref46_Div.f k a b c d = _
          obtain ⟨k, rfl⟩ : ∃ m, k = m + 1 := ⟨k - 1, by omega⟩
          rw [assessorref46_Div.f, refvalid_f (by omega), Option.bind_some, if_pos (decide_eq_true h), refvalid_f (by omega), Option.bind_some, decide_eq_true g, assessorref46_Div.j0, if_neg (show ¬ ((!true) = true) by decide), if_neg hc, e1, e4, (hr k (by omega)).2, Option.bind_some]
    · have hg : ¬ (decide (V c d) = true) := by rw [decide_eq_false g]; decide
      refine ⟨(0, 0, 1), fun k hk => ⟨?_, ?_⟩⟩
      · show fraction_Div.f k a b c d = _
        rw [fraction_Div.f, valid_f (by omega), Option.bind_some, if_pos (decide_eq_true h), valid_f (by omega), Option.bind_some, if_neg hg]
      · show assessorref46_Div.f k a b c d = _
        obtain ⟨k, rfl⟩ : ∃ m, k = m + 1 := ⟨k - 1, by omega⟩
        rw [assessorref46_Div.f, refvalid_f (by omega), Option.bind_some, if_pos (decide_eq_true h), refvalid_f (by omega), Option.bind_some, decide_eq_false g, assessorref46_Div.j0, if_pos (show (!false) = true by decide)]
  · have hh : ¬ (decide (V a b) = true) := by rw [decide_eq_false h]; decide
    refine ⟨(0, 0, 1), fun k hk => ⟨?_, ?_⟩⟩
    · show fraction_Div.f k a b c d = _
      rw [fraction_Div.f, valid_f (by omega), Option.bind_some, if_neg hh]
    · show assessorref46_Div.f k a b c d = _
      obtain ⟨k, rfl⟩ : ∃ m, k = m + 1 := ⟨k - 1, by omega⟩
      rw [assessorref46_Div.f, refvalid_f (by omega), Option.bind_some, if_neg hh, assessorref46_Div.j0, if_pos rfl]
end Go.Proofs.YtkfibjmjamdigaaDoor.Q


namespace Go.Proofs.YtkfibjmjamdigaaDoor.Q
set_option linter.unusedVariables false
open Go.RowKit Go.Proofs.YtkfibjmjamdigaaDoorW.PrintWords Go.Proofs.YtkfibjmjamdigaaDoorW.PrintLast Go.Proofs.YtkfibjmjamdigaaDoorW.PrintMore

def cmpV (a b c d : Int) : Int := if V a b ∧ V c d then (if a * d < c * b then -1 else if a * d > c * b then 1 else 0) else 0
theorem compare7 {k : Nat} (hk : 1000004 < k) (a b c d : Int) : fraction_Compare.f k a b c d = some (cmpV a b c d, decide (V a b ∧ V c d)) ∧ assessorref46_Compare.f k a b c d = some (cmpV a b c d, decide (V a b ∧ V c d)) := by
  obtain ⟨k, rfl⟩ : ∃ m, k = m + 1 := ⟨k - 1, by omega⟩
  by_cases h : V a b
  · by_cases g : V c d
    · obtain ⟨p1, p2, p3, p4, p5⟩ := vbounds h g
      have e1 := w64 (x := a * d) (by omega) (by omega)
      have e2 := w64 (x := c * b) (by omega) (by omega)
      have ev : cmpV a b c d = if a * d < c * b then -1 else if a * d > c * b then 1 else 0 := if_pos (And.intro h g)
      rw [fraction_Compare.f, valid_f (by omega), Option.bind_some, if_pos (decide_eq_true h), valid_f (by omega), Option.bind_some, if_pos (decide_eq_true g), e1, e2, cmp_f, Option.bind_some, decide_eq_true (And.intro h g), ev]
      refine ⟨rfl, ?_⟩
      rw [assessorref46_Compare.f, refvalid_f (by omega), Option.bind_some, if_pos (decide_eq_true h), refvalid_f (by omega), Option.bind_some, decide_eq_true g, assessorref46_Compare.j0, if_neg (show ¬ ((!true) = true) by decide), e1, e2]
      split
      · rfl
      · split <;> rfl
    · have hg : ¬ (decide (V c d) = true) := by rw [decide_eq_false g]; decide
      have n1 : ¬ (V a b ∧ V c d) := fun x => g x.2
      have ev : cmpV a b c d = 0 := if_neg n1
      rw [fraction_Compare.f, valid_f (by omega), Option.bind_some, if_pos (decide_eq_true h), valid_f (by omega), Option.bind_some, if_neg hg, ev, decide_eq_false n1]
      refine ⟨rfl, ?_⟩
      rw [assessorref46_Compare.f, refvalid_f (by omega), Option.bind_some, if_pos (decide_eq_true h), refvalid_f (by omega), Option.bind_some, decide_eq_false g, assessorref46_Compare.j0, if_pos (show (!false) = true by decide)]
  · have hh : ¬ (decide (V a b) = true) := by rw [decide_eq_false h]; decide
    have n1 : ¬ (V a b ∧ V c d) := fun x => h x.1
    have ev : cmpV a b c d = 0 := if_neg n1
    rw [fraction_Compare.f, valid_f (by omega), Option.bind_some, if_neg hh, ev, decide_eq_false n1]
    refine ⟨rfl, ?_⟩
    rw [assessorref46_Compare.f, refvalid_f (by omega), Option.bind_some, if_neg hh, assessorref46_Compare.j0, if_pos rfl]
theorem floors_eq (a b : Int) : assessorref46_floor.f a b = fraction_floor.f a b := rfl
theorem floor_some {a b : Int} (hb : 1 ≤ b) : ∃ q, fraction_floor.f a b = some q := by
  have hb' : ¬ (b = 0) := by omega
  unfold fraction_floor.f
  rw [if_neg hb']
  split <;> exact ⟨_, rfl⟩
theorem hundredths7 {k : Nat} (hk : 1000004 < k) (a b : Int) : ∃ r, fraction_Hundredths.f k a b = some r ∧ assessorref46_Hundredths.f k a b = some r := by
  by_cases h : V a b
  · have e : wrap64 (2 * b) = 2 * b := by obtain ⟨h1, h2, _⟩ := h; exact w64 (by omega) (by omega)
    obtain ⟨q, hq⟩ := floor_some (a := wrap64 (wrap64 (200 * a) + b)) (b := 2 * b) (by have := h.1; omega)
    refine ⟨(q, true), ?_, ?_⟩
    · rw [fraction_Hundredths.f, valid_f (by omega), Option.bind_some, if_pos (decide_eq_true h), e, hq, Option.bind_some]
    · rw [assessorref46_Hundredths.f, refvalid_f (by omega), Option.bind_some, if_pos (decide_eq_true h), e, floors_eq, hq, Option.bind_some]
  · have hh : ¬ (decide (V a b) = true) := by rw [decide_eq_false h]; decide
    refine ⟨(0, false), ?_, ?_⟩
    · rw [fraction_Hundredths.f, valid_f (by omega), Option.bind_some, if_neg hh]
    · rw [assessorref46_Hundredths.f, refvalid_f (by omega), Option.bind_some, if_neg hh]
theorem floor7 {k : Nat} (hk : 1000004 < k) (a b : Int) : ∃ r, fraction_Floor.f k a b = some r ∧ assessorref46_Floor.f k a b = some r := by
  by_cases h : V a b
  · obtain ⟨q, hq⟩ := floor_some (a := a) (b := b) (by have := h.1; omega)
    refine ⟨(q, true), ?_, ?_⟩
    · rw [fraction_Floor.f, valid_f (by omega), Option.bind_some, if_pos (decide_eq_true h), hq, Option.bind_some]
    · rw [assessorref46_Floor.f, refvalid_f (by omega), Option.bind_some, if_pos (decide_eq_true h), floors_eq, hq, Option.bind_some]
  · have hh : ¬ (decide (V a b) = true) := by rw [decide_eq_false h]; decide
    refine ⟨(0, false), ?_, ?_⟩
    · rw [fraction_Floor.f, valid_f (by omega), Option.bind_some, if_neg hh]
    · rw [assessorref46_Floor.f, refvalid_f (by omega), Option.bind_some, if_neg hh]

def From (l : List S23) (i : Int) : Prop := ∀ j, i ≤ j → j < (l.length : Int) → V (rd_T23 l j).f0 (rd_T23 l j).f1
theorem From.end_ {l : List S23} {i : Int} (h : ¬ (i < (l.length : Int))) : From l i := fun j hj hl => by omega
theorem From.next {l : List S23} {i : Int} (h0 : V (rd_T23 l i).f0 (rd_T23 l i).f1) (h : From l (i + 1)) : From l i := fun j hj hl => by
  rcases Int.lt_or_eq_of_le hj with h1 | h1
  · exact h j (by omega) hl
  · subst h1; exact h0
open Classical in
theorem all7 (l : List S23) (hl : l.length ≤ 40) : ∀ (n k : Nat) (i : Int), 0 ≤ i → i ≤ (l.length : Int) → (n : Int) = (l.length : Int) - i → 1000004 + n < k → fraction_all.l0 k l (l.length : Int) i = some (decide (From l i))
  | n, 0, i, _, _, _, hk => by omega
  | n, k + 1, i, h0, h1, hn, hk => by
    rw [fraction_all.l0]
    by_cases h : i < (l.length : Int)
    · rw [if_pos h, if_pos h0, if_pos h, valid_f (by omega), Option.bind_some]
      have ew : wrap64 (i + 1) = i + 1 := w64 (by omega) (by omega)
      by_cases v : V (rd_T23 l i).f0 (rd_T23 l i).f1
      · rw [if_pos (decide_eq_true v), ew, all7 l hl (n - 1) k (i + 1) (by omega) (by omega) (by omega) (by omega)]
        congr 1
        exact decide_eq_decide.2 ⟨fun x => From.next v x, fun x j hj hl => x j (by omega) hl⟩
      · have hv : ¬ (decide (V (rd_T23 l i).f0 (rd_T23 l i).f1) = true) := by rw [decide_eq_false v]; decide
        rw [if_neg hv, decide_eq_false (fun x => v (x i (by omega) h))]
    · rw [if_neg h, decide_eq_true (From.end_ h)]
theorem sum_loops (l : List S23) (hl : l.length ≤ 40) : ∀ (n k m : Nat) (i x y : Int), 0 ≤ i → i ≤ (l.length : Int) → (n : Int) = (l.length : Int) - i → 4611686018427387914 + n < k → 4611686018427387914 + n < m → ∃ r, fraction_Sum.l0 k l (l.length : Int) i x y = some r ∧ assessorref46_Sum.l1 m l i x y = some r
  | n, 0, m, i, x, y, _, _, _, hk, _ => by omega
  | n, k + 1, 0, i, x, y, _, _, _, _, hk => by omega
  | n, k + 1, m + 1, i, x, y, h0, h1, hn, hk, hm => by
    rw [fraction_Sum.l0, assessorref46_Sum.l1]
    by_cases h : i < (l.length : Int)
    · obtain ⟨⟨r1, r2, r3⟩, hr⟩ := add_same x y (rd_T23 l i).f0 (rd_T23 l i).f1
      have e1 : fraction_Add.f k x y (rd_T23 l i).f0 (rd_T23 l i).f1 = some (r1, r2, r3) := (hr k (by omega)).1
      have e2 : assessorref46_Add.f m x y (rd_T23 l i).f0 (rd_T23 l i).f1 = some (r1, r2, r3) := (hr m (by omega)).2
      have ew : wrap64 (i + 1) = i + 1 := w64 (by omega) (by omega)
      rw [if_pos h, if_pos h0, if_pos h, if_pos h, if_pos h0, e1, e2, Option.bind_some, Option.bind_some, ew]
      by_cases hz : r3 = 0
      · subst hz
        rw [if_pos rfl, if_pos rfl]
        exact sum_loops l hl (n - 1) k m (i + 1) r1 r2 (by omega) (by omega) (by omega) (by omega) (by omega)
      · rw [if_neg hz, if_neg hz]
        exact ⟨_, rfl, rfl⟩
    · rw [if_neg h, if_neg h]
      exact ⟨_, rfl, rfl⟩
open Classical in
theorem refsum_l0 (l : List S23) (hl : l.length ≤ 40) : ∀ (n k : Nat) (i : Int), 0 ≤ i → i ≤ (l.length : Int) → (n : Int) = (l.length : Int) - i → 1000004 + n < k → ∃ m, m + n + 1 = k ∧ assessorref46_Sum.l0 k l i = if From l i then assessorref46_Sum.l1 m l 0 0 1 else some (0, 0, 1)
  | n, 0, i, _, _, _, hk => by omega
  | n, k + 1, i, h0, h1, hn, hk => by
    rw [assessorref46_Sum.l0]
    by_cases h : i < (l.length : Int)
    · have ew : wrap64 (i + 1) = i + 1 := w64 (by omega) (by omega)
      obtain ⟨m, hm, e⟩ := refsum_l0 l hl (n - 1) k (i + 1) (by omega) (by omega) (by omega) (by omega)
      refine ⟨m, by omega, ?_⟩
      rw [if_pos h, if_pos h0, refvalid_f (by omega), Option.bind_some, ew, e]
      by_cases v : V (rd_T23 l i).f0 (rd_T23 l i).f1
      · rw [if_pos (decide_eq_true v)]
        by_cases f : From l (i + 1)
        · rw [if_pos f, if_pos (From.next v f)]
        · rw [if_neg f, if_neg (fun x => f (fun j hj hl => x j (by omega) hl))]
      · have hv : ¬ (decide (V (rd_T23 l i).f0 (rd_T23 l i).f1) = true) := by rw [decide_eq_false v]; decide
        rw [if_neg hv, if_neg (fun x => v (x i (by omega) h))]
    · refine ⟨k, by omega, ?_⟩
      rw [if_neg h, if_pos (From.end_ h)]
open Classical in
theorem sum7 (l : List S23) (hl : l.length ≤ 40) {k : Nat} (hk : 4611686018427388014 < k) : ∃ r, fraction_Sum.f k l = some r ∧ assessorref46_Sum.f k l = some r := by
  have hg : ¬ ((l.length : Int) > 1024) := by omega
  obtain ⟨m, hm, e⟩ := refsum_l0 l hl l.length k 0 (by omega) (by omega) (by omega) (by omega)
  obtain ⟨k, rfl⟩ : ∃ m, k = m + 1 := ⟨k - 1, by omega⟩
  rw [fraction_Sum.f, if_neg hg, assessorref46_Sum.f, if_neg hg, e, fraction_all.f, all7 l hl l.length (k + 1) 0 (by omega) (by omega) (by omega) (by omega), Option.bind_some]
  by_cases f : From l 0
  · rw [if_pos f, decide_eq_true f, fraction_Sum.j0, if_neg (show ¬ ((!true) = true) by decide)]
    exact sum_loops l hl l.length k m 0 0 1 (by omega) (by omega) (by omega) (by omega) (by omega)
  · rw [if_neg f, decide_eq_false f, fraction_Sum.j0, if_pos (show (!false) = true by decide)]
    exact ⟨_, rfl, rfl⟩
open Classical in
theorem best_loops (l : List S23) (hl : l.length ≤ 40) : ∀ (n k m : Nat) (i b : Int), 0 ≤ i → i ≤ (l.length : Int) → -1 ≤ b → b < (l.length : Int) → (n : Int) = (l.length : Int) - i → 1000008 + n < k → 1000008 + n < m → ∃ r, (From l i → fraction_Best.l0 k l b l (l.length : Int) i = some r) ∧ assessorref46_Best.l0 m l b i = if From l i then some r else some (-1)
  | n, 0, m, i, b, _, _, _, _, _, hk, _ => by omega
  | n, k + 1, 0, i, b, _, _, _, _, _, _, hk => by omega
  | n, k + 1, m + 1, i, b, h0, h1, hb, hb2, hn, hk, hm => by
    rw [fraction_Best.l0, assessorref46_Best.l0]
    by_cases h : i < (l.length : Int)
    · have ew : wrap64 (i + 1) = i + 1 := w64 (by omega) (by omega)
      rw [if_pos h, if_pos h0, if_pos h, if_pos h, if_pos h0, refvalid_f (by omega), Option.bind_some, ew]
      by_cases v : V (rd_T23 l i).f0 (rd_T23 l i).f1
      · have hf : From l i ↔ From l (i + 1) := ⟨fun x j hj hl => x j (by omega) hl, From.next v⟩
        rw [if_pos (decide_eq_true v)]
        by_cases c : b < 0
        · obtain ⟨r, g1, g2⟩ := best_loops l hl (n - 1) k m (i + 1) i (by omega) (by omega) (by omega) (by omega) (by omega) (by omega) (by omega)
          refine ⟨r, fun x => ?_, ?_⟩
          · rw [if_neg (by omega)]; exact g1 (hf.1 x)
          · rw [if_pos c, (compare7 (by omega) _ _ _ _).2, Option.bind_some, ite_self, g2]
            simp only [hf]
        · have c1 : b ≥ 0 := by omega
          have c2 : 0 ≤ b := by omega
          rw [if_pos c1, if_pos c2, if_pos hb2, if_neg c, if_pos c2, if_pos hb2, (compare7 (by omega) _ _ _ _).1, (compare7 (by omega) _ _ _ _).2, Option.bind_some, Option.bind_some]
          by_cases d : cmpV (rd_T23 l i).f0 (rd_T23 l i).f1 (rd_T23 l b).f0 (rd_T23 l b).f1 ≤ 0
          · obtain ⟨r, g1, g2⟩ := best_loops l hl (n - 1) k m (i + 1) b (by omega) (by omega) (by omega) (by omega) (by omega) (by omega) (by omega)
            have d2 : ¬ (cmpV (rd_T23 l i).f0 (rd_T23 l i).f1 (rd_T23 l b).f0 (rd_T23 l b).f1 > 0) := by omega
            rw [if_pos d, if_neg d2, g2]
            exact ⟨r, fun x => g1 (hf.1 x), by simp only [hf]⟩
          · obtain ⟨r, g1, g2⟩ := best_loops l hl (n - 1) k m (i + 1) i (by omega) (by omega) (by omega) (by omega) (by omega) (by omega) (by omega)
            have d2 : cmpV (rd_T23 l i).f0 (rd_T23 l i).f1 (rd_T23 l b).f0 (rd_T23 l b).f1 > 0 := by omega
            rw [if_neg d, if_pos d2, g2]
            exact ⟨r, fun x => g1 (hf.1 x), by simp only [hf]⟩
      · have hv : ¬ (decide (V (rd_T23 l i).f0 (rd_T23 l i).f1) = true) := by rw [decide_eq_false v]; decide
        have nf : ¬ From l i := fun x => v (x i (by omega) h)
        refine ⟨0, fun x => absurd x nf, ?_⟩
        rw [if_neg hv, if_neg nf]
    · rw [if_neg h, if_neg h]
      refine ⟨b, fun _ => rfl, ?_⟩
      rw [if_pos (From.end_ h)]
open Classical in
theorem best7 (l : List S23) (hl : l.length ≤ 40) {k : Nat} (hk : 1000100 < k) : ∃ r, fraction_Best.f k l = some r ∧ assessorref46_Best.f k l = some r := by
  obtain ⟨r, g1, g2⟩ := best_loops l hl l.length k k 0 (-1) (by omega) (by omega) (by omega) (by omega) (by omega) (by omega) (by omega)
  rw [fraction_Best.f, fraction_all.f, all7 l hl l.length k 0 (by omega) (by omega) (by omega) (by omega), Option.bind_some, assessorref46_Best.f, g2]
  by_cases f : From l 0
  · rw [if_pos f, if_pos (decide_eq_true f), g1 f]
    exact ⟨_, rfl, rfl⟩
  · have hf : ¬ (decide (From l 0) = true) := by rw [decide_eq_false f]; decide
    rw [if_neg f, if_neg hf]
    exact ⟨_, rfl, rfl⟩
theorem pure_FractionResults (a b c d : Int) (l : List S23) : ∃ k, Ops4 k a b c d ∧ assessorlaw46_FractionResults.f k a b c d l = some true := by
  refine ⟨4611686018427389000, ?_⟩
  generalize hK : (4611686018427389000 : Nat) = k
  have hk : 4611686018427388900 < k := by omega
  clear hK
  obtain ⟨⟨r1, r2, r3⟩, ha⟩ := add_same a b c d
  obtain ⟨⟨s1, s2, s3⟩, hs⟩ := sub_same a b c d
  obtain ⟨⟨m1, m2, m3⟩, hm⟩ := mul_same a b c d
  obtain ⟨⟨d1, d2, d3⟩, hd⟩ := div_same a b c d
  refine ⟨⟨⟨_, _, _, ha k (by omega)⟩, ⟨_, _, _, hs k (by omega)⟩, ⟨_, _, _, hm k (by omega)⟩, ⟨_, _, _, hd k (by omega)⟩⟩, ?_⟩
  rw [assessorlaw46_FractionResults.f, awake_true (by omega), Option.bind_some, if_pos rfl]
  by_cases hl : (l.length : Int) > 40
  · rw [if_pos hl]
  · obtain ⟨⟨t1, t2, t3⟩, e1, e2⟩ := sum7 l (by omega) (k := k) (by omega)
    obtain ⟨⟨h1, h2⟩, e5, e6⟩ := hundredths7 (k := k) (by omega) a b
    obtain ⟨⟨f1, f2⟩, e7, e8⟩ := floor7 (k := k) (by omega) a b
    obtain ⟨b1, e9, e10⟩ := best7 l (by omega) (k := k) (by omega)
    have e3 := (compare7 (k := k) (by omega) a b c d).1
    have e4 := (compare7 (k := k) (by omega) a b c d).2
    rw [if_neg hl, e1, Option.bind_some, e2, Option.bind_some, e3, Option.bind_some, e4, Option.bind_some, e5, Option.bind_some, e6, Option.bind_some, e7, Option.bind_some, e8, Option.bind_some, e9, Option.bind_some, e10, Option.bind_some]
    simp only [beq_self_eq_true, Bool.and_self, if_true]
end Go.Proofs.YtkfibjmjamdigaaDoor.Q


namespace Go.Proofs.YtkfibjmjamdigaaDoor.Q
open Go.ChangeShapes Go.WideShapes Go.RowKit Go.Deep Go.Proofs.YtkfibjmjamdigaaDoorW.PrintWords Go.Proofs.YtkfibjmjamdigaaDoorW.PrintLast Go.Proofs.YtkfibjmjamdigaaDoorW.PrintMore
set_option linter.unusedVariables false
set_option maxRecDepth 100000 in
theorem cells23' : Tryd.prog.cellsOf 23 = 2 := by kernel_rfl
set_option maxRecDepth 100000 in
theorem cells3' : Tryd.prog.cellsOf 3 = 1 := by kernel_rfl
set_option maxRecDepth 100000 in
theorem open_rows23 {H : Type} {enc : TypeId × Value → H} {W : World} {r : Reach} {b0 base : Nat} {spare : Nat → Bool} {held : Bool} {v : Value} {d : DataW H} {p : List MemPlace} (hv : Value.okWide Tryd.prog W r b0 40 v) (h : DataW.Trod enc Tryd.prog W base spare held 40 v d p) :
    ∃ (A : Option Addr) (c : Nat) (xs : List S23), v = .slice A xs.length c ∧ xs.length ≤ c ∧ Kd.C k23 W A xs.length xs := by
  obtain ⟨a, len, cap, rfl⟩ := okWide_slice Tryd.underlying40 hv
  obtain ⟨fuel, hf⟩ := h
  rcases open_slice Tryd.underlying40 hf with ⟨hcs, _⟩ | ⟨x, l, c, m, n, D, Pl, hcs, _, hl, hm, hmm, _, hi⟩
  · simp [Value.cells] at hcs
    obtain ⟨rfl, rfl, rfl⟩ := hcs
    exact ⟨none, 0, [], rfl, Nat.le_refl _, rfl, by decide, fun h => absurd h (by decide)⟩
  · simp [Value.cells] at hcs
    obtain ⟨rfl, rfl, rfl⟩ := hcs
    have el : ∀ i, ∃ y : S23, i < len → W.cell? (x.add (i * 2)) = some (.int .i64 y.f0) ∧ W.cell? (x.add (i * 2 + 1)) = some (.int .i64 y.f1) := by
      intro i
      by_cases hil : i < len
      · have him : i < m := by rw [hmm]; split <;> omega
        obtain ⟨cs', hc, ht⟩ := hi i him
        rw [cells23'] at hc
        obtain ⟨y0, y1, n', _, hlen, t0, t1⟩ := trod_struct2 Tryd.underlying23 ht
        obtain ⟨_, hcl, hat⟩ := World.cells?_some hc
        match cs', hcl with
        | [u0, u1], _ =>
          simp only [cells3', List.drop_zero, List.drop_succ_cons, List.take_succ_cons, List.take_zero] at t0 t1
          obtain ⟨a0, g0, _, _⟩ := DataW.trod_int Tryd.underlying3 t0
          obtain ⟨a1, g1, _, _⟩ := DataW.trod_int Tryd.underlying3 t1
          simp only [List.cons.injEq, and_true] at g0 g1
          subst g0 g1
          refine ⟨⟨a0, a1⟩, fun _ => ⟨?_, ?_⟩⟩
          · have := hat 0 (by decide)
            rw [Deep.add_add] at this
            exact this
          · have := hat 1 (by decide)
            rw [Deep.add_add] at this
            exact this
      · exact ⟨z23, fun h => absurd h hil⟩
    let Y : Nat → S23 := fun i => (el i).choose
    have hY : ∀ i, i < len → W.cell? (x.add (i * 2)) = some (.int .i64 (Y i).f0) ∧ W.cell? (x.add (i * 2 + 1)) = some (.int .i64 (Y i).f1) := fun i => (el i).choose_spec
    have hlen : ((List.range len).map Y).length = len := by simp
    refine ⟨some x, cap, (List.range len).map Y, by rw [hlen], by rw [hlen]; exact hl, rfl, ?_, fun _ => ⟨x, rfl, ?_⟩⟩
    · rw [hlen]; have : maxLen ≤ 9223372036854775807 := by decide
      omega
    · intro j y hj
      rw [List.getElem?_map] at hj
      have hjl : j < len := by
        rcases Nat.lt_or_ge j len with h | h
        · exact h
        · rw [List.getElem?_eq_none (by simpa using h)] at hj; cases hj
      rw [List.getElem?_range hjl] at hj
      obtain rfl : Y j = y := by simpa using hj
      refine ⟨[.int .i64 (Y j).f0, .int .i64 (Y j).f1], rfl, k23_mk W (Y j), ?_⟩
      intro i u hu
      match i, hu with
      | 0, hu => simp at hu; subst hu; exact (hY j hjl).1
      | 1, hu => simp at hu; subst hu; exact (hY j hjl).2
      | i + 2, hu => simp at hu
end Go.Proofs.YtkfibjmjamdigaaDoor.Q

/- Whatever the input: FractionResults returns true, and the input reads afterwards as it read before (the row lists three tables of the library; the card ties them to the program's text). No further condition. -/

namespace Go.Proofs.YtkfibjmjamdigaaDoor.fractionResults
open Go.ChangeShapes Go.WideShapes Go.ChangeAt Go.RowKit Go.Proofs.YtkfibjmjamdigaaDoor.Q
open Go.ChangeMaps (open_string shut_string)
open Go.Joins (open_agg2)
set_option linter.unusedVariables false
theorem cells23 : Tryd.prog.cellsOf 23 = 2 := by kernel_rfl
set_option maxRecDepth 100000 in
theorem contract (H : Type) (enc : TypeId × Value → H) (W : World) (base : Nat) (args : Array Value) (ds gs : List (DataW H)) (before : List MemPlace)
    (hval : ∀ (j : Nat) t v, Tryd.f7.params[j]? = some t → args[j]? = some v → Value.okWide Tryd.prog W .any base t v)
    (hW : DataW.Whole enc Tryd.prog Tryd.f7.params.toList Rows.fractionResultsSpec.vars false W args.toList ds gs before) (hL : laidMetH Tryd.prog Rows.fractionResultsRow.laid W) :
    Calls Tryd.prog 7 args W fun e W' => ∃ v, e = .returned v ∧ Rows.fractionResultsSpec.post enc Tryd.prog Tryd.f7 false true false false W args v W' := by
  have hW' := hW
  obtain ⟨p, q, hA0, hV, rfl, hfz, hnd⟩ := hW
  have hA : DataW.TrodAll enc Tryd.prog W 0 (fun _ => true) true Tryd.f7.params.toList args.toList ds p := hA0
  rw [Tryd.params7] at hA hval
  obtain ⟨v0, vs0, d0, ds0, p0, q0, hargs, rfl, rfl, h0, r0⟩ := trodAll_cons hA
  obtain ⟨v1, vs1, d1, ds1, p1, q1, rfl, rfl, rfl, h1, r1⟩ := trodAll_cons r0
  obtain ⟨v2, vs2, d2, ds2, p2, q2, rfl, rfl, rfl, h2, r2⟩ := trodAll_cons r1
  obtain ⟨rfl, rfl, rfl⟩ := trodAll_nil r2
  obtain rfl : args = #[v0, v1, v2] := by cases args; simp_all
  obtain ⟨rfl, rfl⟩ := trodVars_none hV
  have k0 := h0
  have lt0 : ∀ x ∈ p0, x.block < W.heap.size := by obtain ⟨m, hm⟩ := k0; exact DataW.trod_lt m _ _ _ hm
  obtain ⟨c0, e0, y0, z0, m0, rfl, hd0, hp0, hy0, hz0⟩ := open_agg2 Tryd.underlying23 (by kernel_rfl) cells23 (hval 0 23 v0 rfl rfl) h0
  obtain ⟨a0, g0, _, wa0⟩ := DataW.trod_int Tryd.underlying3 hy0
  obtain ⟨b0, l0, _, wb0⟩ := DataW.trod_int Tryd.underlying3 hz0
  simp only [List.cons.injEq, and_true] at g0 l0
  subst g0 l0
  have k1 := h1
  have lt1 : ∀ x ∈ p1, x.block < W.heap.size := by obtain ⟨m, hm⟩ := k1; exact DataW.trod_lt m _ _ _ hm
  obtain ⟨c1, e1, y1, z1, m1, rfl, hd1, hp1, hy1, hz1⟩ := open_agg2 Tryd.underlying23 (by kernel_rfl) cells23 (hval 1 23 v1 rfl rfl) h1
  obtain ⟨a1, g1, _, wa1⟩ := DataW.trod_int Tryd.underlying3 hy1
  obtain ⟨b1, l1, _, wb1⟩ := DataW.trod_int Tryd.underlying3 hz1
  simp only [List.cons.injEq, and_true] at g1 l1
  subst g1 l1
  have k2 := h2
  have lt2 : ∀ x ∈ p2, x.block < W.heap.size := by obtain ⟨m, hm⟩ := k2; exact DataW.trod_lt m _ _ _ hm
  obtain ⟨A2, c2, l2, rfl, hc2, hC2⟩ := open_rows23 (hval 2 40 v2 rfl rfl) h2
  obtain ⟨k, hops, hk⟩ := pure_FractionResults a0 b0 a1 b1 l2
  refine (assessorlaw46_FractionResults.calls k a0 b0 a1 b1 A2 c2 l2 true W hC2 hc2 hops ⟨rfl⟩ (tab_of_laid hL) hk).mono fun e W' ⟨he, bel⟩ => ?_
  subst he
  exact ⟨_, rfl, _, _, _, [], _, [], hW', trodAll_mk1 (shut_bool Tryd.underlying4 _), (trodAll_cons_mk (Below.trod laidOut (by kernel_rfl) (of_decide_eq_true (by kernel_rfl)) k0 bel lt0) (trodAll_cons_mk (Below.trod laidOut (by kernel_rfl) (of_decide_eq_true (by kernel_rfl)) k1 bel lt1) (trodAll_cons_mk (Below.trod laidOut (by kernel_rfl) (of_decide_eq_true (by kernel_rfl)) k2 bel lt2) trodAll_mk0))), rfl, bel.frame _, fun h => by cases h⟩
theorem reads (os : Os) {H : Type} (enc : TypeId × Value → H) : ∃ places, DataW.whole enc Tryd.prog ((laidWorld os).forCall (fun _ _ => 0) ⟨#[], #[Value.agg #[.int .i64 0, .int .i64 0], Value.agg #[.int .i64 0, .int .i64 0], Value.slice none 0 0], []⟩).memory Tryd.f7.params.toList Rows.fractionResultsSpec.vars false (#[Value.agg #[.int .i64 0, .int .i64 0], Value.agg #[.int .i64 0, .int .i64 0], Value.slice none 0 0] : Array Value).toList 8 = some ([DataW.agg [.lit (.int .i64 0), .lit (.int .i64 0)], DataW.agg [.lit (.int .i64 0), .lit (.int .i64 0)], DataW.nil], [], places) :=
  ⟨[], by kernel_rfl⟩
set_option maxRecDepth 100000 in
theorem lifted (os : Os) (started : os.Started) (H : Type) (enc : TypeId × Value → H) (F : Stop.Interp) :
    ReturnsInHanded {} Tryd.checked os 7 .any ((OpenSpec.ofChange Rows.fractionResultsSpec).preRow enc Tryd.prog Tryd.f7 Rows.fractionResultsRow.domain false Rows.fractionResultsRow.laid) (((OpenSpec.ofChange Rows.fractionResultsSpec).at F).post enc Tryd.prog Tryd.f7 false true false false) := by
  obtain ⟨places, hx⟩ := reads os enc
  refine returnsInHanded_of_row (C := Tryd.checked) (s := OpenSpec.ofChange Rows.fractionResultsSpec) own started (by kernel_rfl) Tryd.func7
    (witness_row_at (enc := enc) (C := Tryd.checked) false (laidWorld os) #[Value.agg #[.int .i64 0, .int .i64 0], Value.agg #[.int .i64 0, .int .i64 0], Value.slice none 0 0] rfl (by kernel_rfl) (by kernel_rfl) (by kernel_rfl)
      (OpenSpec.preRow_of_cond 8 hx (by kernel_rfl) (fun k hk => by cases hk) (by kernel_rfl) (laid_met os _))) ?_
  intro W base args ds gs before hval hW _ _ _ hL _ _
  exact contract H enc W base args ds gs before hval hW hL
theorem said : Rows.FractionResultsSaid :=
  OpenClaim.holds_of_cond 7 Tryd.f7 rfl rfl rfl rfl rfl rfl rfl ⟨rfl, rfl, rfl, rfl, rfl⟩ rfl rfl rfl rfl rfl (by kernel_rfl) Tryd.func7 (by kernel_rfl)
    (of_decide_eq_true (by kernel_rfl)) (by unfold Func.isWrapper; first | (rw [if_pos (by decide +kernel)]; kernel_rfl) | (rw [if_neg (by decide +kernel)]; exact ⟨rfl, rfl⟩))
    (fun os started H enc _ F => by rw [OpenClaim.pre_eq_preRow]; exact lifted os started H enc F)
theorem plain (f : FuncId) (fn : Func) (hf : Tryd.pinned.checked.prog.funcNamed "assessor/assessorlaw46.FractionResults" = some f) (hfn : Tryd.pinned.checked.prog.funcs[f]? = some fn) :
    true = Tryd.pinned.checked.prog.looks [] ∧ ∀ (j : Nat) t, fn.params[j]? = some t → Tryd.pinned.checked.prog.wantsStandIn t = false := by
  obtain rfl : f = 7 := Option.some.inj ((show Tryd.prog.funcNamed "assessor/assessorlaw46.FractionResults" = some 7 by kernel_rfl).symm.trans hf) |>.symm
  obtain rfl : fn = Tryd.f7 := (Option.some.inj (Tryd.func7.symm.trans hfn)).symm
  refine ⟨by kernel_rfl, fun j t ht => ?_⟩
  rw [Tryd.params7] at ht
  have hm : t ∈ [23, 40] := by have h := Array.mem_of_getElem? ht; simp at h ⊢; first | omega | grind
  have hall : ([23, 40].all fun u => !Tryd.prog.wantsStandIn u) = true := by kernel_rfl
  exact (show Tryd.prog.wantsStandIn t = false by simpa using List.all_eq_true.1 hall t hm)
theorem card : Rows.FractionResultsCardSaid :=
  Claim7.holds_tied_plain_at .later [] _ _ _ _ said (fun _ h => by cases h) (by kernel_rfl) (fun _ h => by cases h) fractionResults_row_tie rfl ⟨rfl, rfl⟩ (by kernel_rfl) rfl plain (by kernel_rfl)
end Go.Proofs.YtkfibjmjamdigaaDoor.fractionResults
namespace Go.Proofs.YtkfibjmjamdigaaDoor

theorem fractionResults_card_holds : Rows.FractionResultsCardSaid := fractionResults.card
#print axioms fractionResults_card_holds
end Go.Proofs.YtkfibjmjamdigaaDoor

