/- Reduction to lowest terms: what 'reduced' and the four operations return, told by cross products. -/
import Derived.Test.YtkfibjmjamdigaaDoorQBase
import Derived.Test.YtkfibjmjamdigaaDoorQOps
namespace Go.Proofs.YtkfibjmjamdigaaDoor.Q
set_option linter.unusedVariables false
open Go.RowKit Go.Proofs.YtkfibjmjamdigaaDoorW.PrintWords Go.Proofs.YtkfibjmjamdigaaDoorW.PrintLast Go.Proofs.YtkfibjmjamdigaaDoorW.PrintMore
theorem coprime_unique {x y n d : Int} (hy : 1 ≤ y) (hd : 1 ≤ d) (h1 : Nat.gcd x.natAbs y.natAbs = 1) (h2 : Nat.gcd n.natAbs d.natAbs = 1) (h : x * d = n * y) : x = n ∧ y = d := by
  have e : x.natAbs * d.natAbs = n.natAbs * y.natAbs := by rw [← Int.natAbs_mul, ← Int.natAbs_mul, h]
  have c1 : Nat.Coprime y.natAbs x.natAbs := by rw [Nat.Coprime, Nat.gcd_comm]; exact h1
  have c2 : Nat.Coprime d.natAbs n.natAbs := by rw [Nat.Coprime, Nat.gcd_comm]; exact h2
  have d1 : y.natAbs ∣ d.natAbs := c1.dvd_of_dvd_mul_left (by rw [e]; exact Nat.dvd_mul_left _ _)
  have d2 : d.natAbs ∣ y.natAbs := c2.dvd_of_dvd_mul_left (by rw [← e]; exact Nat.dvd_mul_left _ _)
  have e2 : y = d := by have := Nat.dvd_antisymm d1 d2; omega
  subst e2
  exact ⟨Int.eq_of_mul_eq_mul_right (by omega) h, rfl⟩
/-- r is the fraction of value n / d in lowest terms, or the error 2 where none is valid. -/
def Red (n d r1 r2 r3 : Int) : Prop := (r3 = 0 ∧ V r1 r2 ∧ r1 * d = n * r2) ∨ (r3 = 2 ∧ r1 = 0 ∧ r2 = 0 ∧ ∀ x y, V x y → x * d ≠ n * y)
theorem V.unique {n d x y u v : Int} (hd : d ≠ 0) (h1 : V x y) (h2 : V u v) (e1 : x * d = n * y) (e2 : u * d = n * v) : x = u ∧ y = v := by
  obtain ⟨a1, _, _, _, a5⟩ := h1
  obtain ⟨b1, _, _, _, b5⟩ := h2
  refine coprime_unique a1 b1 a5 b5 (Int.eq_of_mul_eq_mul_right hd ?_)
  calc x * v * d = x * d * v := by grind
    _ = n * y * v := by rw [e1]
    _ = n * v * y := by grind
    _ = u * d * y := by rw [e2]
    _ = u * y * d := by grind
theorem Red.unique {n d r1 r2 r3 s1 s2 s3 : Int} (hd : d ≠ 0) (h : Red n d r1 r2 r3) (g : Red n d s1 s2 s3) : r1 = s1 ∧ r2 = s2 ∧ r3 = s3 := by
  rcases h with ⟨h1, h2, h3⟩ | ⟨h1, h2, h3, h4⟩
  · rcases g with ⟨g1, g2, g3⟩ | ⟨g1, g2, g3, g4⟩
    · obtain ⟨e1, e2⟩ := V.unique hd h2 g2 h3 g3
      exact ⟨e1, e2, by omega⟩
    · exact absurd h3 (g4 _ _ h2)
  · rcases g with ⟨g1, g2, g3⟩ | ⟨g1, g2, g3, g4⟩
    · exact absurd g3 (h4 _ _ g2)
    · omega
theorem red_pos {n d g : Int} (hd : 1 ≤ d) (hg : g = ((Nat.gcd n.natAbs d.natAbs : Nat) : Int)) : 1 ≤ g ∧ n = g * Int.tdiv n g ∧ d = g * Int.tdiv d g ∧ 1 ≤ Int.tdiv d g ∧ Nat.gcd (Int.tdiv n g).natAbs (Int.tdiv d g).natAbs = 1 ∧ (Int.tdiv n g).natAbs ≤ n.natAbs ∧ (Int.tdiv d g).natAbs ≤ d.natAbs := by
  have p : 0 < Nat.gcd n.natAbs d.natAbs := Nat.gcd_pos_of_pos_right _ (by omega)
  have h1 : g ∣ n := by rw [hg]; exact Int.ofNat_dvd_left.2 (Nat.gcd_dvd_left _ _)
  have h2 : g ∣ d := by rw [hg]; exact Int.ofNat_dvd_left.2 (Nat.gcd_dvd_right _ _)
  have e1 : g * Int.tdiv n g = n := Int.mul_tdiv_cancel' h1
  have e2 : g * Int.tdiv d g = d := Int.mul_tdiv_cancel' h2
  have ga : g.natAbs = Nat.gcd n.natAbs d.natAbs := by rw [hg]; simp
  refine ⟨by omega, e1.symm, e2.symm, ?_, ?_, ?_, ?_⟩
  · rcases Int.le_total (Int.tdiv d g) 0 with h | h
    · have := Int.mul_le_mul_of_nonneg_left (a := Int.tdiv d g) (b := 0) (c := g) h (by omega)
      omega
    · rcases Int.le_iff_lt_or_eq.1 h with h | h
      · omega
      · rw [← h] at e2; omega
  · rw [Int.natAbs_tdiv, Int.natAbs_tdiv, ga]
    exact Nat.coprime_div_gcd_div_gcd p
  · rw [Int.natAbs_tdiv]; exact Nat.div_le_self _ _
  · rw [Int.natAbs_tdiv]; exact Nat.div_le_self _ _
theorem red_of {n d g : Int} (hd : 1 ≤ d) (hg : g = ((Nat.gcd n.natAbs d.natAbs : Nat) : Int)) : (V (Int.tdiv n g) (Int.tdiv d g) → Red n d (Int.tdiv n g) (Int.tdiv d g) 0) ∧ (¬ V (Int.tdiv n g) (Int.tdiv d g) → Red n d 0 0 2) := by
  obtain ⟨h1, h2, h3, h4, h5, _, _⟩ := red_pos hd hg
  generalize Int.tdiv n g = n' at *
  generalize Int.tdiv d g = d' at *
  subst h2 h3
  refine ⟨fun h => .inl ⟨rfl, h, by grind⟩, fun h => .inr ⟨rfl, rfl, rfl, fun x y hv e => h ?_⟩⟩
  have e' : x * d' = n' * y := by
    refine Int.eq_of_mul_eq_mul_left (a := g) (by omega) ?_
    calc g * (x * d') = x * (g * d') := by grind
      _ = g * n' * y := e
      _ = g * (n' * y) := by grind
  obtain ⟨c1, c2⟩ := coprime_unique hv.1 h4 hv.2.2.2.2 h5 e'
  rw [← c1, ← c2]
  exact hv
theorem j0_red {k : Nat} {n d : Int} (hd : 1 ≤ d) (hn1 : -4611686018427387904 ≤ n) (hn2 : n ≤ 4611686018427387904) (hd2 : d ≤ 4611686018427387904) (hk : 4611686018427387909 < k) :
    ∃ r1 r2 r3, fraction_reduced.j0 k n d = some (r1, r2, r3) ∧ Red n d r1 r2 r3 := by
  obtain ⟨k, rfl⟩ : ∃ m, k = m + 1 := ⟨k - 1, by omega⟩
  simp only [fraction_reduced.j0]
  rw [abs_f (by omega) (by omega)]
  simp only [Option.bind_some]
  rw [divisor_int (by omega) (by omega) (by omega)]
  simp only [Option.bind_some, Int.natAbs_natCast]
  generalize hg : ((Nat.gcd n.natAbs d.natAbs : Nat) : Int) = g
  obtain ⟨h1, _, _, _, _, h6, h7⟩ := red_pos hd hg.symm
  obtain ⟨a, b⟩ := red_of hd hg.symm
  rw [if_neg (by omega), w64 (x := Int.tdiv n g) (by omega) (by omega), w64 (x := Int.tdiv d g) (by omega) (by omega), valid_f (by omega)]
  simp only [Option.bind_some, decide_eq_true_eq]
  by_cases h : V (Int.tdiv n g) (Int.tdiv d g)
  · rw [if_pos h]; exact ⟨_, _, _, rfl, a h⟩
  · rw [if_neg h]; exact ⟨_, _, _, rfl, b h⟩
theorem Red.neg {n d r1 r2 r3 : Int} (h : Red (-n) (-d) r1 r2 r3) : Red n d r1 r2 r3 := by
  rcases h with ⟨h1, h2, h3⟩ | ⟨h1, h2, h3, h4⟩
  · exact .inl ⟨h1, h2, by grind⟩
  · exact .inr ⟨h1, h2, h3, fun x y hv e => h4 x y hv (by grind)⟩
theorem reduced_red {k : Nat} {n d : Int} (hd : d ≠ 0) (hn1 : -4611686018427387904 ≤ n) (hn2 : n ≤ 4611686018427387904) (hd1 : -4611686018427387904 ≤ d) (hd2 : d ≤ 4611686018427387904) (hk : 4611686018427387909 < k) :
    ∃ r1 r2 r3, fraction_reduced.f k n d = some (r1, r2, r3) ∧ Red n d r1 r2 r3 := by
  unfold fraction_reduced.f
  by_cases h : d < 0
  · rw [if_pos h, w64 (by omega) (by omega), w64 (by omega) (by omega)]
    obtain ⟨r1, r2, r3, e, hr⟩ := j0_red (k := k) (n := -n) (d := -d) (by omega) (by omega) (by omega) (by omega) hk
    exact ⟨r1, r2, r3, e, hr.neg⟩
  · rw [if_neg h]
    exact j0_red (by omega) hn1 hn2 hd2 hk
/-- what an operation returns: the error 1 where an argument is not valid, else the value in lowest terms (with denominator 0: the error 2) -/
def OpR (a b c d n m r1 r2 r3 : Int) : Prop := (¬ (V a b ∧ V c d) ∧ r1 = 0 ∧ r2 = 0 ∧ r3 = 1) ∨ (V a b ∧ V c d ∧ m = 0 ∧ r1 = 0 ∧ r2 = 0 ∧ r3 = 2) ∨ (V a b ∧ V c d ∧ m ≠ 0 ∧ Red n m r1 r2 r3)
theorem OpR.unique {a b c d n m r1 r2 r3 s1 s2 s3 : Int} (h : OpR a b c d n m r1 r2 r3) (g : OpR a b c d n m s1 s2 s3) : r1 = s1 ∧ r2 = s2 ∧ r3 = s3 := by
  rcases h with ⟨h1, h2, h3, h4⟩ | ⟨h1, h2, h3, h4⟩ | ⟨h1, h2, h3, h4⟩ <;> rcases g with ⟨g1, g2, g3, g4⟩ | ⟨g1, g2, g3, g4⟩ | ⟨g1, g2, g3, g4⟩
  · omega
  · exact absurd ⟨g1, g2⟩ h1
  · exact absurd ⟨g1, g2⟩ h1
  · exact absurd ⟨h1, h2⟩ g1
  · omega
  · exact absurd h3 g3
  · exact absurd ⟨h1, h2⟩ g1
  · exact absurd g3 h3
  · exact Red.unique h3 h4 g4
theorem prod_bound {x y X Y : Int} (hx : -X ≤ x) (hx2 : x ≤ X) (hy : -Y ≤ y) (hy2 : y ≤ Y) : -(X * Y) ≤ x * y ∧ x * y ≤ X * Y := by
  have h1 : (X - x) * (Y - y) ≥ 0 := Int.mul_nonneg (by omega) (by omega)
  have h2 : (X + x) * (Y + y) ≥ 0 := Int.mul_nonneg (by omega) (by omega)
  have h3 : (X - x) * (Y + y) ≥ 0 := Int.mul_nonneg (by omega) (by omega)
  have h4 : (X + x) * (Y - y) ≥ 0 := Int.mul_nonneg (by omega) (by omega)
  constructor <;> grind
end Go.Proofs.YtkfibjmjamdigaaDoor.Q
