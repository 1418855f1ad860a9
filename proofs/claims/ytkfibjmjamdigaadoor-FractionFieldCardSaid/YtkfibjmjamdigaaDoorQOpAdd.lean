/- Add of fractions: what the Go function returns. -/
import Derived.Test.YtkfibjmjamdigaaDoorQOps
namespace Go.Proofs.YtkfibjmjamdigaaDoor.Q
open Go.RowKit Go.Proofs.YtkfibjmjamdigaaDoorW.PrintWords Go.Proofs.YtkfibjmjamdigaaDoorW.PrintLast Go.Proofs.YtkfibjmjamdigaaDoorW.PrintMore
set_option linter.unusedVariables false
set_option linter.unusedSimpArgs false
set_option maxRecDepth 100000 in
set_option maxHeartbeats 1000000 in
theorem lit_Add (a b c d : Int) (w : World) :
    Calls Tryd.prog 52 #[.agg #[.int .i64 a, .int .i64 b], .agg #[.int .i64 c, .int .i64 d]] w fun e w' => e = .returned (.tuple #[.int .i64 (wrap64 (wrap64 (a * d) + wrap64 (c * b))), .int .i64 (wrap64 (b * d))]) ∧ Below w.heap.size w w' := by
  go_enter Tryd.func52, Tryd.ntmps52
  go_wp2_with fail
  go_quiet (fail)
  go_wp2
  go_ret2
  exact ⟨rfl, _root_.Go.below_drewN (((Below.refl _ _).alloc (Nat.le_refl _) _).alloc (by simp) _) _⟩
set_option maxRecDepth 100000 in
set_option maxHeartbeats 1000000 in
theorem op_Add_c (k qb : Nat) (a b c d x y : Int) (w : World) (hv : fraction_Valid.f k a b = some true) (hv2 : fraction_Valid.f k c d = some true) (hy : (y == 0) = true) (hG : ∀ W : World, Calls Tryd.prog 52 #[.agg #[.int .i64 a, .int .i64 b], .agg #[.int .i64 c, .int .i64 d]] W fun e W' => e = .returned (.tuple #[.int .i64 x, .int .i64 y]) ∧ Below W.heap.size W W') (hq : w.cell? ⟨qb, 0, none⟩ = some (.func (.func 52) #[] #[])) (hl : qb < w.heap.size) :
    Calls Tryd.prog 65 #[.agg #[.int .i64 a, .int .i64 b], .agg #[.int .i64 c, .int .i64 d], .pointer (some ⟨qb, 0, none⟩)] w fun e w' => e = .returned (.tuple #[.agg #[.int .i64 0, .int .i64 0], .int .i64 2]) ∧ Below w.heap.size w w' := by
  go_enter Tryd.func65, Tryd.ntmps65
  go_wp2_with fail
  refine (fraction_Valid.calls k _ _ _ _ hv).mono ?_
  rintro e w1 ⟨rfl, hb⟩
  obtain ⟨hc, hf⟩ := bcell hb
  have hz : w.heap.size + 1 + 1 < w1.heap.size := by have := hb.size; simp at this; omega
  have hq2 := (((((Below.refl _ _).alloc (Nat.le_refl _) _).alloc (by simp) _).alloc (by simp; omega) _).trans (hb.mono (by simp; omega)) : Below w.heap.size w w1).cell (p := ⟨qb, 0, none⟩) hl
  rw [hq] at hq2
  go_wp2_with fail
  refine (fraction_Valid.calls k _ _ _ _ hv2).mono ?_
  rintro e w2 ⟨rfl, hb2⟩
  replace hb := hb.trans (hb2.mono hb.size)
  clear hb2 hc hf hz hq2
  obtain ⟨hc, hf⟩ := bcell hb
  have hz : w.heap.size + 1 + 1 < w2.heap.size := by have := hb.size; simp at this; omega
  have hq2 := (((((Below.refl _ _).alloc (Nat.le_refl _) _).alloc (by simp) _).alloc (by simp; omega) _).trans (hb.mono (by simp; omega)) : Below w.heap.size w w2).cell (p := ⟨qb, 0, none⟩) hl
  rw [hq] at hq2
  go_wp2_with fail
  refine (hG _).mono ?_
  rintro e w2 ⟨rfl, hb2⟩
  replace hb := hb.trans (hb2.mono hb.size)
  clear hb2 hc hf hz hq2
  obtain ⟨hc, hf⟩ := bcell hb
  have hz : w.heap.size + 1 + 1 < w2.heap.size := by have := hb.size; simp at this; omega
  have hq2 := (((((Below.refl _ _).alloc (Nat.le_refl _) _).alloc (by simp) _).alloc (by simp; omega) _).trans (hb.mono (by simp; omega)) : Below w.heap.size w w2).cell (p := ⟨qb, 0, none⟩) hl
  rw [hq] at hq2
  go_wp2_with fail
  refine bodyPost_ret (v := .tuple #[.agg #[.int .i64 0, .int .i64 0], .int .i64 2]) (by simp [results, Tryd.results65, go_sem, hc, hz]) rfl ⟨rfl, ?_⟩
  exact (((((((Below.refl _ _).alloc (Nat.le_refl _) _).alloc (by simp) _).alloc (by simp; omega) _).trans (hb.mono (by simp; omega))).setCell (by simp; omega) _).setCell (by simp; omega) _)
set_option maxRecDepth 100000 in
set_option maxHeartbeats 1000000 in
theorem op_Add_d (k qb : Nat) (a b c d x y r1 r2 r3 : Int) (w : World) (hv : fraction_Valid.f k a b = some true) (hv2 : fraction_Valid.f k c d = some true) (hy : (y == 0) = false) (hr : fraction_reduced.f k x y = some (r1, r2, r3)) (hG : ∀ W : World, Calls Tryd.prog 52 #[.agg #[.int .i64 a, .int .i64 b], .agg #[.int .i64 c, .int .i64 d]] W fun e W' => e = .returned (.tuple #[.int .i64 x, .int .i64 y]) ∧ Below W.heap.size W W') (hq : w.cell? ⟨qb, 0, none⟩ = some (.func (.func 52) #[] #[])) (hl : qb < w.heap.size) :
    Calls Tryd.prog 65 #[.agg #[.int .i64 a, .int .i64 b], .agg #[.int .i64 c, .int .i64 d], .pointer (some ⟨qb, 0, none⟩)] w fun e w' => e = .returned (.tuple #[.agg #[.int .i64 r1, .int .i64 r2], .int .i64 r3]) ∧ Below w.heap.size w w' := by
  go_enter Tryd.func65, Tryd.ntmps65
  go_wp2_with fail
  refine (fraction_Valid.calls k _ _ _ _ hv).mono ?_
  rintro e w1 ⟨rfl, hb⟩
  obtain ⟨hc, hf⟩ := bcell hb
  have hz : w.heap.size + 1 + 1 < w1.heap.size := by have := hb.size; simp at this; omega
  have hq2 := (((((Below.refl _ _).alloc (Nat.le_refl _) _).alloc (by simp) _).alloc (by simp; omega) _).trans (hb.mono (by simp; omega)) : Below w.heap.size w w1).cell (p := ⟨qb, 0, none⟩) hl
  rw [hq] at hq2
  go_wp2_with fail
  refine (fraction_Valid.calls k _ _ _ _ hv2).mono ?_
  rintro e w2 ⟨rfl, hb2⟩
  replace hb := hb.trans (hb2.mono hb.size)
  clear hb2 hc hf hz hq2
  obtain ⟨hc, hf⟩ := bcell hb
  have hz : w.heap.size + 1 + 1 < w2.heap.size := by have := hb.size; simp at this; omega
  have hq2 := (((((Below.refl _ _).alloc (Nat.le_refl _) _).alloc (by simp) _).alloc (by simp; omega) _).trans (hb.mono (by simp; omega)) : Below w.heap.size w w2).cell (p := ⟨qb, 0, none⟩) hl
  rw [hq] at hq2
  go_wp2_with fail
  refine (hG _).mono ?_
  rintro e w2 ⟨rfl, hb2⟩
  replace hb := hb.trans (hb2.mono hb.size)
  clear hb2 hc hf hz hq2
  obtain ⟨hc, hf⟩ := bcell hb
  have hz : w.heap.size + 1 + 1 < w2.heap.size := by have := hb.size; simp at this; omega
  have hq2 := (((((Below.refl _ _).alloc (Nat.le_refl _) _).alloc (by simp) _).alloc (by simp; omega) _).trans (hb.mono (by simp; omega)) : Below w.heap.size w w2).cell (p := ⟨qb, 0, none⟩) hl
  rw [hq] at hq2
  go_wp2_with fail
  refine (fraction_reduced.calls k _ _ _ _ _ _ hr).mono ?_
  rintro e w2 ⟨rfl, hb2⟩
  replace hb := hb.trans (hb2.mono hb.size)
  clear hb2 hc hf hz hq2
  obtain ⟨hc, hf⟩ := bcell hb
  have hz : w.heap.size + 1 + 1 < w2.heap.size := by have := hb.size; simp at this; omega
  have hq2 := (((((Below.refl _ _).alloc (Nat.le_refl _) _).alloc (by simp) _).alloc (by simp; omega) _).trans (hb.mono (by simp; omega)) : Below w.heap.size w w2).cell (p := ⟨qb, 0, none⟩) hl
  rw [hq] at hq2
  go_wp2_with fail
  refine bodyPost_ret (v := .tuple #[.agg #[.int .i64 r1, .int .i64 r2], .int .i64 r3]) (by simp [results, Tryd.results65, go_sem, hc, hz]) rfl ⟨rfl, ?_⟩
  exact (((((((Below.refl _ _).alloc (Nat.le_refl _) _).alloc (by simp) _).alloc (by simp; omega) _).trans (hb.mono (by simp; omega))).setCell (by simp; omega) _).setCell (by simp; omega) _)
def fraction_Add.f (k : Nat) (a b c d : Int) : Option (Int × Int × Int) := (fraction_Valid.f k a b).bind fun va => if va = true then ((fraction_Valid.f k c d).bind fun vb => if vb = true then (if wrap64 (b * d) = 0 then some (0, 0, 2) else fraction_reduced.f k (wrap64 (wrap64 (a * d) + wrap64 (c * b))) (wrap64 (b * d))) else some (0, 0, 1)) else some (0, 0, 1)
set_option maxRecDepth 100000 in
set_option maxHeartbeats 4000000 in
theorem opc_Add (k qb : Nat) (a b c d r1 r2 r3 : Int) (w : World) (h : fraction_Add.f k a b c d = some (r1, r2, r3)) (hq : w.cell? ⟨qb, 0, none⟩ = some (.func (.func 52) #[] #[])) (hl : qb < w.heap.size) :
    Calls Tryd.prog 65 #[.agg #[.int .i64 a, .int .i64 b], .agg #[.int .i64 c, .int .i64 d], .pointer (some ⟨qb, 0, none⟩)] w fun e w' => e = .returned (.tuple #[.agg #[.int .i64 r1, .int .i64 r2], .int .i64 r3]) ∧ Below w.heap.size w w' := by
  unfold fraction_Add.f at h
  obtain ⟨va, hv, h⟩ := Option.bind_eq_some_iff.mp h
  cases va with
  | false =>
    simp only [Bool.false_eq_true, if_false, Option.some.injEq, Prod.mk.injEq] at h
    obtain ⟨rfl, rfl, rfl⟩ := h
    exact op1_a k _ a b c d w hv
  | true =>
    rw [if_pos rfl] at h
    obtain ⟨vb, hv2, h⟩ := Option.bind_eq_some_iff.mp h
    cases vb with
    | false =>
      simp only [Bool.false_eq_true, if_false, Option.some.injEq, Prod.mk.injEq] at h
      obtain ⟨rfl, rfl, rfl⟩ := h
      exact op1_b k _ a b c d w hv hv2
    | true =>
      rw [if_pos rfl] at h
      by_cases hy : wrap64 (b * d) = 0
      · rw [if_pos hy] at h
        simp only [Option.some.injEq, Prod.mk.injEq] at h
        obtain ⟨rfl, rfl, rfl⟩ := h
        exact op_Add_c k qb a b c d _ _ w hv hv2 (by simpa using hy) (fun W => lit_Add a b c d W) hq hl
      · rw [if_neg hy] at h
        exact op_Add_d k qb a b c d _ _ _ _ _ w hv hv2 (by simpa using hy) h (fun W => lit_Add a b c d W) hq hl
set_option maxRecDepth 100000 in
set_option maxHeartbeats 4000000 in
theorem fraction_Add.calls (k : Nat) (a b c d r1 r2 r3 : Int) (w : World) (h : fraction_Add.f k a b c d = some (r1, r2, r3)) :
    Calls Tryd.prog 21 #[.agg #[.int .i64 a, .int .i64 b], .agg #[.int .i64 c, .int .i64 d]] w fun e w' => e = .returned (.tuple #[.agg #[.int .i64 r1, .int .i64 r2], .int .i64 r3]) ∧ Below w.heap.size w w' := by
  go_enter Tryd.func21, Tryd.ntmps21
  go_wp2_with fail
  go_region_held3 (fun w' => w'.cell? ⟨w.heap.size, 0, none⟩ = some (.int .i64 a) ∧ w'.cell? ⟨w.heap.size, 1, none⟩ = some (.int .i64 b) ∧ w'.cell? ⟨w.heap.size + 1, 0, none⟩ = some (.int .i64 c) ∧ w'.cell? ⟨w.heap.size + 1, 1, none⟩ = some (.int .i64 d) ∧ RR w w')
    (first | exact start4 a b c d w _ _ | exact keepA _ (start4 a b c d w _ _) | exact keepB hb (keepA _ (start4 a b c d w _ _)) | exact keepSet 1 _ (by decide) (keepSet 0 _ (by decide) (keepB hb (keepA _ (start4 a b c d w _ _)))))
    (first | (go_at_call 51; refine (operation.calls _ _).mono ?_; rintro e w' ⟨rfl, rfl⟩) | (go_at_call 65; refine (opc_Add k _ a b c d _ _ _ _ h ?hq ?hl).mono ?_; (case hq => simp [go_sem]); (case hl => simp [go_sem]); rintro e w' ⟨rfl, hb⟩; have hS := (keepB hb (keepA _ (start4 a b c d w _ _))).2.2.2.2; obtain ⟨hB', v0, v1, hv⟩ := hS; have c0 := blk_cell hv 0; have c1 := blk_cell hv 1; have f0 := blk_frozen hv 0; have f1 := blk_frozen hv 1; clear hB' hv))
  obtain ⟨_, _, _, _, hE, _⟩ := ‹_ ∧ _ ∧ _ ∧ _ ∧ RR w _›
  go_wp2
  refine bodyPost_ret (v := .tuple #[.agg #[.int .i64 r1, .int .i64 r2], .int .i64 r3]) (by simp [results, Tryd.results21, go_sem, c0, c1]) rfl ⟨rfl, hE⟩
theorem fraction_Add.mono : ∀ a b c d k, LeO (fraction_Add.f k a b c d) (fraction_Add.f (k + 1) a b c d) := by
  intro a b c d k
  unfold fraction_Add.f
  repeat' first
      | (with_reducible exact fraction_Valid.mono _ _ _)
      | (with_reducible exact fraction_reduced.mono _ _ _)
      | (with_reducible exact LeO.refl _)
      | (with_reducible refine LeO.ite ?_ ?_)
      | (with_reducible refine LeO.bind ?_ (fun _ => ?_))
end Go.Proofs.YtkfibjmjamdigaaDoor.Q
