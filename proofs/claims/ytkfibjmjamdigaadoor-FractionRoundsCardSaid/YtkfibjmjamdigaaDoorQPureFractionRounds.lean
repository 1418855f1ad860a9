/- FractionRounds, about numbers alone. -/
import Derived.Test.YtkfibjmjamdigaaDoorQF5
import Derived.Test.YtkfibjmjamdigaaDoorQBase
namespace Go.Proofs.YtkfibjmjamdigaaDoor.Q
set_option linter.unusedVariables false
open Go.RowKit Go.Proofs.YtkfibjmjamdigaaDoorW.PrintWords Go.Proofs.YtkfibjmjamdigaaDoorW.PrintLast Go.Proofs.YtkfibjmjamdigaaDoorW.PrintMore
theorem hundredths_f {k : Nat} (hk : 1000000 < k) (n d : Int) : ∃ q, fraction_Hundredths.f k n d = some (q, decide (V n d)) ∧ (V n d → 2 * (d * q) ≤ 200 * n + d ∧ 200 * n + d < 2 * (d * q) + 2 * d) := by
  unfold fraction_Hundredths.f
  rw [valid_f hk]
  by_cases h : V n d
  · have hv := h
    obtain ⟨h1, h2, h3, h4, _⟩ := h
    obtain ⟨q, hq, h5, h6⟩ := floor_f (a := 200 * n + d) (b := 2 * d) (by omega) (by omega) (by omega)
    refine ⟨q, ?_, fun _ => ?_⟩
    · rw [w64 (x := 200 * n) (by omega) (by omega), w64 (x := 200 * n + d) (by omega) (by omega), w64 (x := 2 * d) (by omega) (by omega), hq]
      simp [hv]
    · rw [Int.mul_assoc] at h5 h6
      exact ⟨h5, h6⟩
  · exact ⟨0, by simp [h], fun h' => absurd h' h⟩
theorem floor'_f {k : Nat} (hk : 1000000 < k) (n d : Int) : ∃ q, fraction_Floor.f k n d = some (q, decide (V n d)) ∧ (V n d → d * q ≤ n ∧ n < d * q + d) := by
  unfold fraction_Floor.f
  rw [valid_f hk]
  by_cases h : V n d
  · have hv := h
    obtain ⟨h1, h2, h3, h4, _⟩ := h
    obtain ⟨q, hq, h5, h6⟩ := floor_f (a := n) (b := d) (by omega) (by omega) (by omega)
    exact ⟨q, by rw [hq]; simp [hv], fun _ => ⟨h5, h6⟩⟩
  · exact ⟨0, by simp [h], fun h' => absurd h' h⟩
theorem compare_f {k : Nat} (hk : 1000000 < k) (a b c d : Int) : fraction_Compare.f k a b c d = some (if V a b ∧ V c d then (if a * d < c * b then -1 else if a * d > c * b then 1 else 0) else 0, decide (V a b ∧ V c d)) := by
  unfold fraction_Compare.f
  rw [valid_f hk]
  by_cases h : V a b
  · by_cases h2 : V c d
    · have e1 : wrap64 (a * d) = a * d := by
        obtain ⟨h1, h2', h3, h4, _⟩ := h
        obtain ⟨g1, g2, g3, g4, _⟩ := h2
        have l1 := Int.mul_le_mul_of_nonneg_right (a := a) (b := 1000000000) (c := d) h4 (by omega)
        have l2 := Int.mul_le_mul_of_nonneg_right (a := -1000000000) (b := a) (c := d) h3 (by omega)
        exact w64 (by omega) (by omega)
      have e2 : wrap64 (c * b) = c * b := by
        obtain ⟨h1, h2', h3, h4, _⟩ := h
        obtain ⟨g1, g2, g3, g4, _⟩ := h2
        have l1 := Int.mul_le_mul_of_nonneg_right (a := c) (b := 1000000000) (c := b) g4 (by omega)
        have l2 := Int.mul_le_mul_of_nonneg_right (a := -1000000000) (b := c) (c := b) g3 (by omega)
        exact w64 (by omega) (by omega)
      rw [e1, e2, cmp_f]
      simp [h, h2, valid_f hk]
    · simp [h, h2, valid_f hk]
  · simp [h]
/-- rounding down keeps the order -/
theorem floor_mono {a b n m p q : Int} (hb : 1 ≤ b) (hm : 1 ≤ m) (h1 : b * p ≤ a) (h2 : n < m * q + m) (h : a * m ≤ n * b) : p ≤ q := by
  rcases Int.lt_or_le q p with h3 | h3
  · exfalso
    have e1 : b * p * m ≤ a * m := Int.mul_le_mul_of_nonneg_right h1 (by omega)
    have e2 : n * b < (m * q + m) * b := Int.mul_lt_mul_of_pos_right h2 (by omega)
    have e3 : (m * q + m) * b ≤ b * p * m := by
      have : (q + 1) * (m * b) ≤ p * (m * b) := Int.mul_le_mul_of_nonneg_right (by omega) (Int.mul_nonneg (by omega) (by omega))
      calc (m * q + m) * b = (q + 1) * (m * b) := by grind
        _ ≤ p * (m * b) := this
        _ = b * p * m := by grind
    omega
  · exact h3
theorem rounds_j1 {k : Nat} (hk : 1000002 < k) (n m p q a b c d : Int) (va : V a b) (vc : V c d) (h1 : 2 * (b * n) ≤ 200 * a + b) (h2 : 200 * a + b < 2 * (b * n) + 2 * b) (h3 : b * p ≤ a) (h4 : a < b * p + b)
    (g1 : 2 * (d * m) ≤ 200 * c + d) (g2 : 200 * c + d < 2 * (d * m) + 2 * d) (g3 : d * q ≤ c) (g4 : c < d * q + d) : assessorlaw46_FractionRounds.j1 k n m p q false a b c d = some true := by
  obtain ⟨k, rfl⟩ : ∃ m, k = m + 1 := ⟨k - 1, by omega⟩
  have va' := va
  have vc' := vc
  obtain ⟨b1, b2, a1, a2, _⟩ := va
  obtain ⟨d1, d2, c1, c2, _⟩ := vc
  simp only [assessorlaw46_FractionRounds.j1]
  have e1 : n * b = b * n := Int.mul_comm _ _
  have e2 : p * b = b * p := Int.mul_comm _ _
  have mono : a * d ≤ c * b → n ≤ m ∧ p ≤ q := by
    intro h
    refine ⟨?_, floor_mono b1 d1 h3 g4 h⟩
    refine floor_mono (a := 200 * a + b) (b := 2 * b) (n := 200 * c + d) (m := 2 * d) (by omega) (by omega) (by rw [Int.mul_assoc]; exact h1) (by rw [Int.mul_assoc]; exact g2) ?_
    have : (200 * c + d) * (2 * b) - (200 * a + b) * (2 * d) = 400 * (c * b - a * d) := by grind
    omega
  rw [compare_f (by omega)]
  generalize b * n = t at *
  generalize b * p = u at *
  rw [e1, e2, w64 (x := t) (by omega) (by omega), w64 (x := u) (by omega) (by omega), w64 (x := 100 * a) (by omega) (by omega), w64 (x := t - 100 * a) (by omega) (by omega), w64 (x := 2 * (t - 100 * a)) (by omega) (by omega), w64 (x := -b) (by omega) (by omega), w64 (x := a - u) (by omega) (by omega)]
  rw [if_neg (by simp), if_neg (by omega), if_neg (by omega), if_neg (by omega), if_neg (by omega)]
  simp only [va', vc', and_self, if_true, decide_true, Option.bind_some]
  by_cases hl : a * d < c * b
  · obtain ⟨m1, m2⟩ := mono (by omega)
    simp [hl, m1, m2]
  · by_cases hc : a * d > c * b
    · have h9 : c * b < a * d := hc
      simp [hl, h9]
    · obtain ⟨m1, m2⟩ := mono (by omega)
      have h9 : ¬ c * b < a * d := hc
      simp [hl, h9, m1, m2]
theorem pure_FractionRounds (a b c d : Int) (_ha : (Lit.int .i64 a).wf = true) (_hb : (Lit.int .i64 b).wf = true) (_hc : (Lit.int .i64 c).wf = true) (_hd : (Lit.int .i64 d).wf = true) : ∃ k, assessorlaw46_FractionRounds.f k a b c d = some true := by
  refine ⟨1000010, ?_⟩
  generalize hK : (1000010 : Nat) = k
  have hk : 1000008 < k := by omega
  clear hK
  obtain ⟨n, hn, n1⟩ := hundredths_f (k := k) (by omega) a b
  obtain ⟨m, hm, m1⟩ := hundredths_f (k := k) (by omega) c d
  obtain ⟨p, hp, p1⟩ := floor'_f (k := k) (by omega) a b
  obtain ⟨q, hq, q1⟩ := floor'_f (k := k) (by omega) c d
  unfold assessorlaw46_FractionRounds.f
  rw [awake_true (by omega)]
  simp only [Option.bind_some, if_true]
  rw [hn, hm, hp, hq, valid_f (by omega), valid_f (by omega)]
  simp only [Option.bind_some]
  obtain ⟨k, rfl⟩ : ∃ m, k = m + 1 := ⟨k - 1, by omega⟩
  by_cases va : V a b
  · by_cases vc : V c d
    · obtain ⟨x1, x2⟩ := n1 va
      obtain ⟨x3, x4⟩ := p1 va
      obtain ⟨y1, y2⟩ := m1 vc
      obtain ⟨y3, y4⟩ := q1 vc
      have hj := rounds_j1 (k := k) (by omega) n m p q a b c d va vc x1 x2 x3 x4 y1 y2 y3 y4
      obtain ⟨b1, b2, a1, a2, _⟩ := va
      have r1 := quot_bound (d := b) (q := n) (X := 101000000000) b1 (by omega) (by omega) (by omega)
      have r2 := quot_bound (d := b) (q := p) (X := 101000000000) b1 (by omega) (by omega) (by omega)
      have va' : V a b := ⟨b1, b2, a1, a2, by assumption⟩
      simp only [va', vc, decide_true, if_true, Bool.not_true]
      simp only [assessorlaw46_FractionRounds.j0, Bool.false_eq_true, if_false, if_true]
      rw [if_neg (by omega), if_neg (by omega), if_neg (by omega), decide_eq_false (by omega)]
      exact hj
    · simp only [va, vc, decide_true, decide_false, if_true, Bool.not_false]
      simp only [assessorlaw46_FractionRounds.j0]
      rw [valid_f (by omega), valid_f (by omega)]
      simp [va, vc]
  · simp only [va, decide_false, Bool.false_eq_true, if_false]
    simp only [assessorlaw46_FractionRounds.j0]
    rw [valid_f (by omega), valid_f (by omega)]
    simp [va]
end Go.Proofs.YtkfibjmjamdigaaDoor.Q
