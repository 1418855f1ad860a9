/- Make and the four operations of fractions. -/
import Derived.Test.YtkfibjmjamdigaaDoorQF42
import Derived.WalkSmall
import Derived.Deep.RegionHeld3
namespace Go.Proofs.YtkfibjmjamdigaaDoor.Q
open Go.RowKit Go.Proofs.YtkfibjmjamdigaaDoorW.PrintWords Go.Proofs.YtkfibjmjamdigaaDoorW.PrintLast Go.Proofs.YtkfibjmjamdigaaDoorW.PrintMore
set_option linter.unusedVariables false
set_option linter.unusedSimpArgs false
def ins (a : Int) : Bool := decide (-1000000000000000 ≤ a) && decide (a ≤ 1000000000000000)
theorem fraction_Make_1.calls (a0 : Int) (w : World) : Calls Tryd.prog 41 #[.int .i64 a0] w fun e w' => e = .returned (.bool (ins a0)) ∧ Drawn0 w w' := by
  unfold ins
  by_cases h : -1000000000000000 ≤ a0
  · have h1 : decide (-1000000000000000 ≤ a0) = true := by simpa using h
    rw [h1, Bool.true_and]
    go_enter Tryd.func41, Tryd.ntmps41
    go_wp2
    repeat (go_quiet (fail); try go_wp2)
    go_ret
    exact ⟨rfl, by repeat (first | exact Drawn0.refl _ | apply Drawn0.step)⟩
  · have h1 : decide (-1000000000000000 ≤ a0) = false := by simpa using h
    rw [h1, Bool.false_and]
    go_enter Tryd.func41, Tryd.ntmps41
    go_wp2
    repeat (go_quiet (fail); try go_wp2)
    go_ret
    exact ⟨rfl, by repeat (first | exact Drawn0.refl _ | apply Drawn0.step)⟩

def fraction_Make.f (k : Nat) (a0 : Int) (a1 : Int) : Option (Int × Int × Int) := if a1 = 0 then some (0, 0, 1) else if ins a0 = true then (if ins a1 = true then fraction_reduced.f k a0 a1 else some (0, 0, 2)) else some (0, 0, 2)
theorem bcell {W w1 : World} (hb : Below W.heap.size W w1) : (∀ b o, b < W.heap.size → w1.cell? ⟨b, o, none⟩ = W.cell? ⟨b, o, none⟩) ∧ (∀ b o, b < W.heap.size → w1.frozen? ⟨b, o, none⟩ = W.frozen? ⟨b, o, none⟩) :=
  ⟨fun b o h => hb.cell (p := ⟨b, o, none⟩) h, fun b o h => hb.frozen (p := ⟨b, o, none⟩) h⟩
set_option maxRecDepth 100000 in
set_option maxHeartbeats 1000000 in
theorem make0 (a0 : Int) (w : World) :
    Calls Tryd.prog 11 #[.int .i64 a0, .int .i64 0] w fun e w' => e = .returned (.tuple #[.agg #[.int .i64 0, .int .i64 0], .int .i64 1]) ∧ Below w.heap.size w w' := by
  have h1 : ((0 : Int) == 0) = true := rfl
  go_enter Tryd.func11, Tryd.ntmps11
  go_wp2
  refine bodyPost_ret (v := .tuple #[.agg #[.int .i64 0, .int .i64 0], .int .i64 1]) (by simp [results, Tryd.results11, go_sem]) rfl ⟨rfl, ?_⟩
  exact (((Below.refl _ _).alloc (Nat.le_refl _) _))
set_option maxRecDepth 100000 in
set_option maxHeartbeats 1000000 in
theorem make1 (a0 a1 : Int) (w : World) (h : a1 ≠ 0) (b1 : ins a0 = false) :
    Calls Tryd.prog 11 #[.int .i64 a0, .int .i64 a1] w fun e w' => e = .returned (.tuple #[.agg #[.int .i64 0, .int .i64 0], .int .i64 2]) ∧ Below w.heap.size w w' := by
  have h1 : (a1 == 0) = false := by simpa using h
  clear h
  go_enter Tryd.func11, Tryd.ntmps11
  go_wp2_with (go_at_call 41; refine (fraction_Make_1.calls _ _).mono ?_; rintro e w' ⟨rfl, ⟨n, rfl⟩⟩; rw [b1])
  refine bodyPost_ret (v := .tuple #[.agg #[.int .i64 0, .int .i64 0], .int .i64 2]) (by simp [results, Tryd.results11, go_sem]) rfl ⟨rfl, ?_⟩
  exact ((_root_.Go.below_drewN ((Below.refl _ _).alloc (Nat.le_refl _) _) _).setCell (by simp) _).setCell (by simp) _
set_option maxRecDepth 100000 in
set_option maxHeartbeats 1000000 in
theorem make2 (a0 a1 : Int) (w : World) (h : a1 ≠ 0) (b1 : ins a0 = true) (b2 : ins a1 = false) :
    Calls Tryd.prog 11 #[.int .i64 a0, .int .i64 a1] w fun e w' => e = .returned (.tuple #[.agg #[.int .i64 0, .int .i64 0], .int .i64 2]) ∧ Below w.heap.size w w' := by
  have h1 : (a1 == 0) = false := by simpa using h
  clear h
  go_enter Tryd.func11, Tryd.ntmps11
  go_wp2_with fail
  refine (fraction_Make_1.calls _ _).mono ?_
  rintro e w' ⟨rfl, ⟨n, rfl⟩⟩
  rw [b1]
  go_wp2_with fail
  refine (fraction_Make_1.calls _ _).mono ?_
  rintro e w' ⟨rfl, ⟨n2, rfl⟩⟩
  rw [b2]
  go_wp2_with fail
  refine bodyPost_ret (v := .tuple #[.agg #[.int .i64 0, .int .i64 0], .int .i64 2]) (by simp [results, Tryd.results11, go_sem]) rfl ⟨rfl, ?_⟩
  exact ((_root_.Go.below_drewN ((Below.refl _ _).alloc (Nat.le_refl _) _) _).setCell (by simp) _).setCell (by simp) _
set_option maxRecDepth 100000 in
set_option maxHeartbeats 1000000 in
theorem make3 (k : Nat) (a0 a1 r1 r2 r3 : Int) (w : World) (h : a1 ≠ 0) (b1 : ins a0 = true) (b2 : ins a1 = true) (hr : fraction_reduced.f k a0 a1 = some (r1, r2, r3)) :
    Calls Tryd.prog 11 #[.int .i64 a0, .int .i64 a1] w fun e w' => e = .returned (.tuple #[.agg #[.int .i64 r1, .int .i64 r2], .int .i64 r3]) ∧ Below w.heap.size w w' := by
  have h1 : (a1 == 0) = false := by simpa using h
  clear h
  go_enter Tryd.func11, Tryd.ntmps11
  go_wp2_with fail
  refine (fraction_Make_1.calls _ _).mono ?_
  rintro e w' ⟨rfl, ⟨n, rfl⟩⟩
  rw [b1]
  go_wp2_with fail
  refine (fraction_Make_1.calls _ _).mono ?_
  rintro e w' ⟨rfl, ⟨n2, rfl⟩⟩
  rw [b2]
  go_wp2_with fail
  refine (fraction_reduced.calls k _ _ _ _ _ _ hr).mono ?_
  rintro e w1 ⟨rfl, hb⟩
  have hv := blk_below (blk_drewN (blk_new w (.cells #[.int .i64 0, .int .i64 0] 23)) (n + n2)) hb
  have hz : w.heap.size < w1.heap.size := blk_lt hv
  have c0 := blk_cell hv 0
  have c1 := blk_cell hv 1
  have f0 := blk_frozen hv 0
  have f1 := blk_frozen hv 1
  go_wp2_with fail
  refine bodyPost_ret (v := .tuple #[.agg #[.int .i64 r1, .int .i64 r2], .int .i64 r3]) (by simp [results, Tryd.results11, go_sem, c0, c1]) rfl ⟨rfl, ?_⟩
  exact (((_root_.Go.below_drewN ((Below.refl _ _).alloc (Nat.le_refl _) _) _).trans (hb.mono (by simp))).setCell (by simp) _).setCell (by simp) _
theorem fraction_Make.calls (k : Nat) (a0 a1 r1 r2 r3 : Int) (w : World) (h : fraction_Make.f k a0 a1 = some (r1, r2, r3)) :
    Calls Tryd.prog 11 #[.int .i64 a0, .int .i64 a1] w fun e w' => e = .returned (.tuple #[.agg #[.int .i64 r1, .int .i64 r2], .int .i64 r3]) ∧ Below w.heap.size w w' := by
  unfold fraction_Make.f at h
  by_cases h0 : a1 = 0
  · rw [if_pos h0] at h
    simp only [Option.some.injEq, Prod.mk.injEq] at h
    obtain ⟨rfl, rfl, rfl⟩ := h
    subst h0
    exact make0 a0 w
  · rw [if_neg h0] at h
    by_cases b1 : ins a0 = true
    · rw [if_pos b1] at h
      by_cases b2 : ins a1 = true
      · rw [if_pos b2] at h
        exact make3 k a0 a1 _ _ _ w h0 b1 b2 h
      · rw [if_neg b2] at h
        simp only [Option.some.injEq, Prod.mk.injEq] at h
        obtain ⟨rfl, rfl, rfl⟩ := h
        exact make2 a0 a1 w h0 b1 (by simpa using b2)
    · rw [if_neg b1] at h
      simp only [Option.some.injEq, Prod.mk.injEq] at h
      obtain ⟨rfl, rfl, rfl⟩ := h
      exact make1 a0 a1 w h0 (by simpa using b1)
set_option maxRecDepth 100000 in
set_option maxHeartbeats 1000000 in
theorem operation.calls (g : Nat) (w : World) :
    Calls Tryd.prog 51 #[.func (.func g) #[] #[]] w fun e w' => e = .returned (.func (.func 65) #[] #[.pointer (some ⟨w.heap.size, 0, none⟩)]) ∧ w.alloc (.cells #[.func (.func g) #[] #[]] 57) = w' := by
  go_enter Tryd.func51, Tryd.ntmps51
  go_wp2_with fail
  go_ret
  exact ⟨rfl, rfl⟩
set_option maxRecDepth 100000 in
set_option maxHeartbeats 1000000 in
theorem op1_a (k : Nat) (q : Addr) (a b c d : Int) (w : World) (hv : fraction_Valid.f k a b = some false) :
    Calls Tryd.prog 65 #[.agg #[.int .i64 a, .int .i64 b], .agg #[.int .i64 c, .int .i64 d], .pointer (some q)] w fun e w' => e = .returned (.tuple #[.agg #[.int .i64 0, .int .i64 0], .int .i64 1]) ∧ Below w.heap.size w w' := by
  go_enter Tryd.func65, Tryd.ntmps65
  go_wp2_with fail
  refine (fraction_Valid.calls k _ _ _ _ hv).mono ?_
  rintro e w1 ⟨rfl, hb⟩
  obtain ⟨hc, hf⟩ := bcell hb
  have hz : w.heap.size + 1 + 1 < w1.heap.size := by have := hb.size; simp at this; omega
  go_wp2_with fail
  refine bodyPost_ret (v := .tuple #[.agg #[.int .i64 0, .int .i64 0], .int .i64 1]) (by simp [results, Tryd.results65, go_sem, hc, hz]) rfl ⟨rfl, ?_⟩
  exact (((((((Below.refl _ _).alloc (Nat.le_refl _) _).alloc (by simp) _).alloc (by simp; omega) _).trans (hb.mono (by simp; omega))).setCell (by simp; omega) _).setCell (by simp; omega) _)
set_option maxRecDepth 100000 in
set_option maxHeartbeats 1000000 in
theorem op1_b (k : Nat) (q : Addr) (a b c d : Int) (w : World) (hv : fraction_Valid.f k a b = some true) (hv2 : fraction_Valid.f k c d = some false) :
    Calls Tryd.prog 65 #[.agg #[.int .i64 a, .int .i64 b], .agg #[.int .i64 c, .int .i64 d], .pointer (some q)] w fun e w' => e = .returned (.tuple #[.agg #[.int .i64 0, .int .i64 0], .int .i64 1]) ∧ Below w.heap.size w w' := by
  go_enter Tryd.func65, Tryd.ntmps65
  go_wp2_with fail
  refine (fraction_Valid.calls k _ _ _ _ hv).mono ?_
  rintro e w1 ⟨rfl, hb⟩
  obtain ⟨hc, hf⟩ := bcell hb
  have hz : w.heap.size + 1 + 1 < w1.heap.size := by have := hb.size; simp at this; omega
  go_wp2_with fail
  refine (fraction_Valid.calls k _ _ _ _ hv2).mono ?_
  rintro e w2 ⟨rfl, hb2⟩
  replace hb := hb.trans (hb2.mono hb.size)
  clear hb2 hc hf hz
  obtain ⟨hc, hf⟩ := bcell hb
  have hz : w.heap.size + 1 + 1 < w2.heap.size := by have := hb.size; simp at this; omega
  go_wp2_with fail
  refine bodyPost_ret (v := .tuple #[.agg #[.int .i64 0, .int .i64 0], .int .i64 1]) (by simp [results, Tryd.results65, go_sem, hc, hz]) rfl ⟨rfl, ?_⟩
  exact (((((((Below.refl _ _).alloc (Nat.le_refl _) _).alloc (by simp) _).alloc (by simp; omega) _).trans (hb.mono (by simp; omega))).setCell (by simp; omega) _).setCell (by simp; omega) _)
def RR (w w' : World) : Prop := Below w.heap.size w w' ∧ ∃ v0 v1 : Value, w'.heap[w.heap.size + 1 + 1]? = some (.cells #[v0, v1] 23 (0, 0))
def Cells4 (a b c d : Int) (w w' : World) : Prop := (w'.cell? ⟨w.heap.size, 0, none⟩ = some (.int .i64 a) ∧ w'.cell? ⟨w.heap.size, 1, none⟩ = some (.int .i64 b) ∧ w'.cell? ⟨w.heap.size + 1, 0, none⟩ = some (.int .i64 c) ∧ w'.cell? ⟨w.heap.size + 1, 1, none⟩ = some (.int .i64 d) ∧ RR w w')
theorem keepR {w W1 W2 : World} (hb : Below W1.heap.size W1 W2) (h : RR w W1) : RR w W2 := by
  obtain ⟨h4, v0, v1, h5⟩ := h
  exact ⟨h4.trans (hb.mono h4.size), v0, v1, blk_below h5 hb⟩
theorem keepB {a b c d : Int} {w W1 W2 : World} (hb : Below W1.heap.size W1 W2) (h : Cells4 a b c d w W1) : Cells4 a b c d w W2 := by
  obtain ⟨h0, h1, h2, h3, h4⟩ := h
  have hl : w.heap.size + 1 + 1 < W1.heap.size := by obtain ⟨_, _, _, h5⟩ := h4; exact blk_lt h5
  exact ⟨(hb.cell (p := ⟨_, 0, none⟩) (by simp; omega)).trans h0, (hb.cell (p := ⟨_, 1, none⟩) (by simp; omega)).trans h1, (hb.cell (p := ⟨_, 0, none⟩) (by simp; omega)).trans h2, (hb.cell (p := ⟨_, 1, none⟩) (by simp; omega)).trans h3, keepR hb h4⟩
theorem keepA {a b c d : Int} {w W1 : World} (o : Obj) (h : Cells4 a b c d w W1) : Cells4 a b c d w (W1.alloc o) := keepB ((Below.refl _ _).alloc (Nat.le_refl _) o) h
theorem cell_far {W : World} {p q : Addr} (h : p.block ≠ q.block) (u : Value) : (W.setCell p u).cell? q = W.cell? q := World.cell?_of_block (Below.heap_setCell W p u q.block (Ne.symm h))
theorem keepSet {a b c d : Int} {w W1 : World} (i : Nat) (u : Value) (hi : i < 2) (h : Cells4 a b c d w W1) : Cells4 a b c d w (W1.setCell ⟨w.heap.size + 1 + 1, i, none⟩ u) := by
  obtain ⟨h0, h1, h2, h3, h4, v0, v1, h5⟩ := h
  refine ⟨(cell_far (by simp; omega) u).trans h0, (cell_far (by simp; omega) u).trans h1, (cell_far (by simp) u).trans h2, (cell_far (by simp) u).trans h3, h4.setCell (by simp; omega) u, ?_⟩
  have := blk_set h5 i u
  match i, hi with
  | 0, _ => exact ⟨u, v1, this⟩
  | 1, _ => exact ⟨v0, u, this⟩
theorem start4 (a b c d : Int) (w : World) (v0 v1 : Value) : Cells4 a b c d w (((w.alloc (.cells #[.int .i64 a, .int .i64 b] 23)).alloc (.cells #[.int .i64 c, .int .i64 d] 23)).alloc (.cells #[v0, v1] 23)).drew := by
  refine ⟨?_, ?_, ?_, ?_, ((((Below.refl _ _).alloc (Nat.le_refl _) _).alloc (by simp) _).alloc (by simp; omega) _).drew, v0, v1, ?_⟩
  · simp [go_sem]
  · simp [go_sem]
  · simp [go_sem]
  · simp [go_sem]
  · have := blk_new ((w.alloc (.cells #[.int .i64 a, .int .i64 b] 23)).alloc (.cells #[.int .i64 c, .int .i64 d] 23)) (.cells #[v0, v1] 23)
    rw [show w.heap.size + 1 + 1 = ((w.alloc (.cells #[.int .i64 a, .int .i64 b] 23)).alloc (.cells #[.int .i64 c, .int .i64 d] 23)).heap.size by simp]
    exact this
theorem fraction_Make.mono : ∀ a0 a1 k, LeO (fraction_Make.f k a0 a1) (fraction_Make.f (k + 1) a0 a1) := by
  intro a0 a1 k
  unfold fraction_Make.f
  repeat' first
      | (with_reducible exact fraction_Valid.mono _ _ _)
      | (with_reducible exact fraction_reduced.mono _ _ _)
      | (with_reducible exact LeO.refl _)
      | (with_reducible refine LeO.ite ?_ ?_)
      | (with_reducible refine LeO.bind ?_ (fun _ => ?_))
end Go.Proofs.YtkfibjmjamdigaaDoor.Q
