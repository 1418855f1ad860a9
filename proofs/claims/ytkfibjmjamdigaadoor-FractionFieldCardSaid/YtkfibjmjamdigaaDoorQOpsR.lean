/- What the four operations return: OpR. -/
import Derived.Test.YtkfibjmjamdigaaDoorQRed
import Derived.Test.YtkfibjmjamdigaaDoorQOpAdd
import Derived.Test.YtkfibjmjamdigaaDoorQOpSub
import Derived.Test.YtkfibjmjamdigaaDoorQOpMul
import Derived.Test.YtkfibjmjamdigaaDoorQOpDiv
namespace Go.Proofs.YtkfibjmjamdigaaDoor.Q
set_option linter.unusedVariables false
open Go.RowKit Go.Proofs.YtkfibjmjamdigaaDoorW.PrintWords Go.Proofs.YtkfibjmjamdigaaDoorW.PrintLast Go.Proofs.YtkfibjmjamdigaaDoorW.PrintMore
theorem opAdd_f {k : Nat} (hk : 4611686018427387909 < k) (a b c d : Int) : ∃ r1 r2 r3, fraction_Add.f k a b c d = some (r1, r2, r3) ∧ OpR a b c d (a * d + c * b) (b * d) r1 r2 r3 := by
  unfold fraction_Add.f
  rw [valid_f (by omega), valid_f (by omega)]
  simp only [Option.bind_some, decide_eq_true_eq]
  by_cases h : V a b
  · by_cases g : V c d
    · rw [if_pos h, if_pos g]
      have h' := h
      have g' := g
      obtain ⟨h1, h2, h3, h4, _⟩ := h
      obtain ⟨g1, g2, g3, g4, _⟩ := g
      have p1 := prod_bound (x := a) (y := d) (X := 1000000000) (Y := 1000000) (by omega) (by omega) (by omega) (by omega)
      have p2 := prod_bound (x := c) (y := b) (X := 1000000000) (Y := 1000000) (by omega) (by omega) (by omega) (by omega)
      have p3 := prod_bound (x := b) (y := d) (X := 1000000) (Y := 1000000) (by omega) (by omega) (by omega) (by omega)
      have p4 := prod_bound (x := a) (y := c) (X := 1000000000) (Y := 1000000000) (by omega) (by omega) (by omega) (by omega)
      have p5 := prod_bound (x := b) (y := c) (X := 1000000) (Y := 1000000000) (by omega) (by omega) (by omega) (by omega)
      rw [w64 (x := a * d) (by omega) (by omega), w64 (x := c * b) (by omega) (by omega), w64 (x := a * d + c * b) (by omega) (by omega), w64 (x := b * d) (by omega) (by omega)]
      by_cases hm : b * d = 0
      · rw [if_pos hm]
        exact ⟨_, _, _, rfl, .inr (.inl ⟨h', g', hm, rfl, rfl, rfl⟩)⟩
      · rw [if_neg hm]
        obtain ⟨r1, r2, r3, e, hr⟩ := reduced_red (k := k) (n := a * d + c * b) (d := b * d) hm (by omega) (by omega) (by omega) (by omega) hk
        exact ⟨r1, r2, r3, e, .inr (.inr ⟨h', g', hm, hr⟩)⟩
    · rw [if_pos h, if_neg g]
      exact ⟨_, _, _, rfl, .inl ⟨fun x => g x.2, rfl, rfl, rfl⟩⟩
  · rw [if_neg h]
    exact ⟨_, _, _, rfl, .inl ⟨fun x => h x.1, rfl, rfl, rfl⟩⟩
theorem opSub_f {k : Nat} (hk : 4611686018427387909 < k) (a b c d : Int) : ∃ r1 r2 r3, fraction_Sub.f k a b c d = some (r1, r2, r3) ∧ OpR a b c d (a * d - c * b) (b * d) r1 r2 r3 := by
  unfold fraction_Sub.f
  rw [valid_f (by omega), valid_f (by omega)]
  simp only [Option.bind_some, decide_eq_true_eq]
  by_cases h : V a b
  · by_cases g : V c d
    · rw [if_pos h, if_pos g]
      have h' := h
      have g' := g
      obtain ⟨h1, h2, h3, h4, _⟩ := h
      obtain ⟨g1, g2, g3, g4, _⟩ := g
      have p1 := prod_bound (x := a) (y := d) (X := 1000000000) (Y := 1000000) (by omega) (by omega) (by omega) (by omega)
      have p2 := prod_bound (x := c) (y := b) (X := 1000000000) (Y := 1000000) (by omega) (by omega) (by omega) (by omega)
      have p3 := prod_bound (x := b) (y := d) (X := 1000000) (Y := 1000000) (by omega) (by omega) (by omega) (by omega)
      have p4 := prod_bound (x := a) (y := c) (X := 1000000000) (Y := 1000000000) (by omega) (by omega) (by omega) (by omega)
      have p5 := prod_bound (x := b) (y := c) (X := 1000000) (Y := 1000000000) (by omega) (by omega) (by omega) (by omega)
      rw [w64 (x := a * d) (by omega) (by omega), w64 (x := c * b) (by omega) (by omega), w64 (x := a * d - c * b) (by omega) (by omega), w64 (x := b * d) (by omega) (by omega)]
      by_cases hm : b * d = 0
      · rw [if_pos hm]
        exact ⟨_, _, _, rfl, .inr (.inl ⟨h', g', hm, rfl, rfl, rfl⟩)⟩
      · rw [if_neg hm]
        obtain ⟨r1, r2, r3, e, hr⟩ := reduced_red (k := k) (n := a * d - c * b) (d := b * d) hm (by omega) (by omega) (by omega) (by omega) hk
        exact ⟨r1, r2, r3, e, .inr (.inr ⟨h', g', hm, hr⟩)⟩
    · rw [if_pos h, if_neg g]
      exact ⟨_, _, _, rfl, .inl ⟨fun x => g x.2, rfl, rfl, rfl⟩⟩
  · rw [if_neg h]
    exact ⟨_, _, _, rfl, .inl ⟨fun x => h x.1, rfl, rfl, rfl⟩⟩
theorem opMul_f {k : Nat} (hk : 4611686018427387909 < k) (a b c d : Int) : ∃ r1 r2 r3, fraction_Mul.f k a b c d = some (r1, r2, r3) ∧ OpR a b c d (a * c) (b * d) r1 r2 r3 := by
  unfold fraction_Mul.f
  rw [valid_f (by omega), valid_f (by omega)]
  simp only [Option.bind_some, decide_eq_true_eq]
  by_cases h : V a b
  · by_cases g : V c d
    · rw [if_pos h, if_pos g]
      have h' := h
      have g' := g
      obtain ⟨h1, h2, h3, h4, _⟩ := h
      obtain ⟨g1, g2, g3, g4, _⟩ := g
      have p1 := prod_bound (x := a) (y := d) (X := 1000000000) (Y := 1000000) (by omega) (by omega) (by omega) (by omega)
      have p2 := prod_bound (x := c) (y := b) (X := 1000000000) (Y := 1000000) (by omega) (by omega) (by omega) (by omega)
      have p3 := prod_bound (x := b) (y := d) (X := 1000000) (Y := 1000000) (by omega) (by omega) (by omega) (by omega)
      have p4 := prod_bound (x := a) (y := c) (X := 1000000000) (Y := 1000000000) (by omega) (by omega) (by omega) (by omega)
      have p5 := prod_bound (x := b) (y := c) (X := 1000000) (Y := 1000000000) (by omega) (by omega) (by omega) (by omega)
      rw [w64 (x := a * c) (by omega) (by omega), w64 (x := b * d) (by omega) (by omega)]
      by_cases hm : b * d = 0
      · rw [if_pos hm]
        exact ⟨_, _, _, rfl, .inr (.inl ⟨h', g', hm, rfl, rfl, rfl⟩)⟩
      · rw [if_neg hm]
        obtain ⟨r1, r2, r3, e, hr⟩ := reduced_red (k := k) (n := a * c) (d := b * d) hm (by omega) (by omega) (by omega) (by omega) hk
        exact ⟨r1, r2, r3, e, .inr (.inr ⟨h', g', hm, hr⟩)⟩
    · rw [if_pos h, if_neg g]
      exact ⟨_, _, _, rfl, .inl ⟨fun x => g x.2, rfl, rfl, rfl⟩⟩
  · rw [if_neg h]
    exact ⟨_, _, _, rfl, .inl ⟨fun x => h x.1, rfl, rfl, rfl⟩⟩
theorem opDiv_f {k : Nat} (hk : 4611686018427387909 < k) (a b c d : Int) : ∃ r1 r2 r3, fraction_Div.f k a b c d = some (r1, r2, r3) ∧ OpR a b c d (a * d) (b * c) r1 r2 r3 := by
  unfold fraction_Div.f
  rw [valid_f (by omega), valid_f (by omega)]
  simp only [Option.bind_some, decide_eq_true_eq]
  by_cases h : V a b
  · by_cases g : V c d
    · rw [if_pos h, if_pos g]
      have h' := h
      have g' := g
      obtain ⟨h1, h2, h3, h4, _⟩ := h
      obtain ⟨g1, g2, g3, g4, _⟩ := g
      have p1 := prod_bound (x := a) (y := d) (X := 1000000000) (Y := 1000000) (by omega) (by omega) (by omega) (by omega)
      have p2 := prod_bound (x := c) (y := b) (X := 1000000000) (Y := 1000000) (by omega) (by omega) (by omega) (by omega)
      have p3 := prod_bound (x := b) (y := d) (X := 1000000) (Y := 1000000) (by omega) (by omega) (by omega) (by omega)
      have p4 := prod_bound (x := a) (y := c) (X := 1000000000) (Y := 1000000000) (by omega) (by omega) (by omega) (by omega)
      have p5 := prod_bound (x := b) (y := c) (X := 1000000) (Y := 1000000000) (by omega) (by omega) (by omega) (by omega)
      rw [w64 (x := a * d) (by omega) (by omega), w64 (x := b * c) (by omega) (by omega)]
      by_cases hm : b * c = 0
      · rw [if_pos hm]
        exact ⟨_, _, _, rfl, .inr (.inl ⟨h', g', hm, rfl, rfl, rfl⟩)⟩
      · rw [if_neg hm]
        obtain ⟨r1, r2, r3, e, hr⟩ := reduced_red (k := k) (n := a * d) (d := b * c) hm (by omega) (by omega) (by omega) (by omega) hk
        exact ⟨r1, r2, r3, e, .inr (.inr ⟨h', g', hm, hr⟩)⟩
    · rw [if_pos h, if_neg g]
      exact ⟨_, _, _, rfl, .inl ⟨fun x => g x.2, rfl, rfl, rfl⟩⟩
  · rw [if_neg h]
    exact ⟨_, _, _, rfl, .inl ⟨fun x => h x.1, rfl, rfl, rfl⟩⟩
end Go.Proofs.YtkfibjmjamdigaaDoor.Q
