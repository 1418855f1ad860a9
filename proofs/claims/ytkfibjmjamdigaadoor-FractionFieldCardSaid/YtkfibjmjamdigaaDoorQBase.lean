/- Plain facts on the functions that the printed texts tell: greatest common divisors, validity, reduction, rounding down. -/
import Derived.Test.YtkfibjmjamdigaaDoorQF10
import Derived.Test.YtkfibjmjamdigaaDoorQF27
namespace Go.Proofs.YtkfibjmjamdigaaDoor.Q
open Go.RowKit Go.Proofs.YtkfibjmjamdigaaDoorW.PrintWords Go.Proofs.YtkfibjmjamdigaaDoorW.PrintLast Go.Proofs.YtkfibjmjamdigaaDoorW.PrintMore
theorem mono_le {α : Type} {f : Nat → Option α} (h : ∀ k, LeO (f k) (f (k + 1))) {k m : Nat} (hk : k ≤ m) : LeO (f k) (f m) := by
  induction hk with
  | refl => exact LeO.refl _
  | step _ ih => exact ih.trans (h _)
theorem w64 {x : Int} (h : -9223372036854775808 ≤ x) (h2 : x ≤ 9223372036854775807) : wrap64 x = x := by unfold wrap64; omega
theorem awake_60 : assessorlaw46_awake.f 60 = some true := by kernel_rfl
theorem awake_true {k : Nat} (hk : 60 ≤ k) : assessorlaw46_awake.f k = some true := mono_le (f := fun k => assessorlaw46_awake.f k) (fun k => assessorlaw46_awake.mono k) hk _ awake_60

theorem divisor_gcd : ∀ (y k x : Nat), y < k → fraction_divisor.l0 k (x : Int) (y : Int) = some ((Nat.gcd x y : Nat) : Int) := by
  intro y
  induction y using Nat.strongRecOn with
  | ind y ih =>
    intro k x hk
    obtain ⟨k, rfl⟩ : ∃ m, k = m + 1 := ⟨k - 1, by omega⟩
    simp only [fraction_divisor.l0]
    by_cases h : y = 0
    · subst h
      rw [if_neg (by omega)]
      simp
    · rw [if_pos (by omega), if_neg (by omega)]
      have e : Int.tmod (x : Int) (y : Int) = ((x % y : Nat) : Int) := by rw [Int.tmod_eq_emod_of_nonneg (by omega)]; simp
      rw [e, ih (x % y) (Nat.mod_lt _ (by omega)) k y (by have := Nat.mod_lt x (by omega : y > 0); omega)]
      rw [Nat.gcd_comm y (x % y), ← Nat.gcd_rec y x, Nat.gcd_comm y x]
theorem divisor_int {k : Nat} {a b : Int} (ha : 0 ≤ a) (hb : 0 ≤ b) (hk : b < k) : fraction_divisor.f k a b = some ((Nat.gcd a.natAbs b.natAbs : Nat) : Int) := by
  unfold fraction_divisor.f
  have := divisor_gcd b.natAbs k a.natAbs (by omega)
  rwa [show ((a.natAbs : Nat) : Int) = a by omega, show ((b.natAbs : Nat) : Int) = b by omega] at this
theorem abs_f {a : Int} (h : -9223372036854775807 ≤ a) (h2 : a ≤ 9223372036854775807) : fraction_abs.f a = some ((a.natAbs : Nat) : Int) := by
  unfold fraction_abs.f
  rw [w64 (by omega) (by omega)]
  unfold mx
  split <;> (congr 1; omega)
/-- A valid fraction. -/
def V (n d : Int) : Prop := 1 ≤ d ∧ d ≤ 1000000 ∧ -1000000000 ≤ n ∧ n ≤ 1000000000 ∧ Nat.gcd n.natAbs d.natAbs = 1
instance (n d : Int) : Decidable (V n d) := by unfold V; infer_instance
theorem valid_f {k : Nat} (hk : 1000000 < k) (n d : Int) : fraction_Valid.f k n d = some (decide (V n d)) := by
  unfold fraction_Valid.f
  by_cases h1 : d ≥ 1
  · by_cases h2 : d ≤ 1000000
    · by_cases h3 : n ≥ -1000000000
      · by_cases h4 : n ≤ 1000000000
        · rw [if_pos h1, if_pos h2, if_pos h3, if_pos h4, abs_f (by omega) (by omega)]
          simp only [Option.bind_some]
          rw [divisor_int (by omega) (by omega) (by omega)]
          simp only [Option.bind_some, Option.some.injEq]
          rw [Bool.eq_iff_iff]
          rw [beq_iff_eq, decide_eq_true_eq, Int.natAbs_natCast]
          constructor
          · intro h
            exact ⟨h1, h2, h3, h4, by omega⟩
          · intro h
            have := h.2.2.2.2
            omega
        · rw [if_pos h1, if_pos h2, if_pos h3, if_neg h4]; exact congrArg some (decide_eq_false (fun h => h4 h.2.2.2.1)).symm
      · rw [if_pos h1, if_pos h2, if_neg h3]; exact congrArg some (decide_eq_false (fun h => h3 h.2.2.1)).symm
    · rw [if_pos h1, if_neg h2]; exact congrArg some (decide_eq_false (fun h => h2 h.2.1)).symm
  · rw [if_neg h1]; exact congrArg some (decide_eq_false (fun h => h1 h.1)).symm
theorem floor_f {a b : Int} (hb : 1 ≤ b) (h1 : -4611686018427387904 ≤ a) (h2 : a ≤ 4611686018427387904) : ∃ q, fraction_floor.f a b = some q ∧ b * q ≤ a ∧ a < b * q + b := by
  have e := Int.mul_tdiv_add_tmod a b
  have l1 : Int.tmod a b < b := Int.tmod_lt_of_pos a (by omega)
  have l2 : -b < Int.tmod a b := Int.lt_tmod_of_pos a (by omega)
  have n1 : (Int.tdiv a b).natAbs ≤ a.natAbs := by
    rw [Int.natAbs_tdiv]
    exact Nat.div_le_self _ _
  unfold fraction_floor.f
  rw [if_neg (by omega), w64 (x := Int.tdiv a b) (by omega) (by omega)]
  by_cases h : Int.tmod a b < 0
  · rw [if_pos h, w64 (by omega) (by omega)]
    refine ⟨_, rfl, ?_, ?_⟩
    · rw [Int.mul_sub, Int.mul_one]; generalize b * Int.tdiv a b = t at *; omega
    · rw [Int.mul_sub, Int.mul_one]; generalize b * Int.tdiv a b = t at *; omega
  · rw [if_neg h]
    refine ⟨_, rfl, ?_, ?_⟩
    · generalize b * Int.tdiv a b = t at *; omega
    · generalize b * Int.tdiv a b = t at *; omega
theorem cmp_f (a b : Int) : cmp_Compare_int.f a b = some (if a < b then -1 else if a > b then 1 else 0) := by
  unfold cmp_Compare_int.f cmp_isNaN_int.f
  simp only [bne_self_eq_false, Option.bind_some, Bool.false_eq_true, if_false]
  split
  · rfl
  · split <;> rfl
/-- |q| is at most X where d * q is. -/
theorem quot_bound {d q X : Int} (hd : 1 ≤ d) (h1 : -X ≤ d * q + d) (h2 : d * q ≤ X) (hx : 0 ≤ X) : -X - 1 ≤ q ∧ q ≤ X := by
  constructor
  · rcases Int.le_total 0 (q + 1) with h | h
    · omega
    · have e : d * (q + 1) = d * q + d := by rw [Int.mul_add, Int.mul_one]
      have := Int.mul_le_mul_of_nonneg_right (a := 1) (b := d) (c := -(q + 1)) hd (by omega)
      have e2 : d * (-(q + 1)) = -(d * (q + 1)) := by rw [Int.mul_neg]
      omega
  · rcases Int.le_total q 0 with h | h
    · omega
    · have := Int.mul_le_mul_of_nonneg_right (a := 1) (b := d) (c := q) hd h
      omega
end Go.Proofs.YtkfibjmjamdigaaDoor.Q
