/- FractionField, about numbers alone. -/
import Derived.Test.YtkfibjmjamdigaaDoorQF4
import Derived.Test.YtkfibjmjamdigaaDoorQOpsR
namespace Go.Proofs.YtkfibjmjamdigaaDoor.Q
set_option linter.unusedVariables false
open Go.RowKit Go.Proofs.YtkfibjmjamdigaaDoorW.PrintWords Go.Proofs.YtkfibjmjamdigaaDoorW.PrintLast Go.Proofs.YtkfibjmjamdigaaDoorW.PrintMore
theorem OpR.swap {a b c d n m n' m' r1 r2 r3 : Int} (h : OpR a b c d n m r1 r2 r3) (hn : n = n') (hm : m = m') : OpR c d a b n' m' r1 r2 r3 := by
  subst hn hm
  rcases h with ⟨h1, h2⟩ | ⟨h1, h2, h3⟩ | ⟨h1, h2, h3⟩
  · exact .inl ⟨fun x => h1 ⟨x.2, x.1⟩, h2⟩
  · exact .inr (.inl ⟨h2, h1, h3⟩)
  · exact .inr (.inr ⟨h2, h1, h3⟩)
theorem OpR.ok {a b c d n m r1 r2 : Int} (h : OpR a b c d n m r1 r2 0) : V a b ∧ V c d ∧ m ≠ 0 ∧ V r1 r2 ∧ r1 * m = n * r2 := by
  rcases h with ⟨_, _, _, h⟩ | ⟨_, _, _, _, _, h⟩ | ⟨h1, h2, h3, ⟨_, h4, h5⟩ | ⟨h4, _⟩⟩
  · omega
  · omega
  · exact ⟨h1, h2, h3, h4, h5⟩
  · omega
theorem OpR.is {a b c d n m r1 r2 r3 x y : Int} (h : OpR a b c d n m r1 r2 r3) (h1 : V a b) (h2 : V c d) (hm : m ≠ 0) (hv : V x y) (e : x * m = n * y) : r1 = x ∧ r2 = y ∧ r3 = 0 :=
  h.unique (.inr (.inr ⟨h1, h2, hm, .inl ⟨rfl, hv, e⟩⟩))
theorem V.pos {n d : Int} (h : V n d) : d ≠ 0 := by have := h.1; omega
/-- products distribute over sums -/
theorem distributes {a b c d p q x1 x2 r1 r2 s1 s2 t1 t2 u1 u2 : Int} (hb : b ≠ 0) (hd : d ≠ 0) (hq : q ≠ 0) (hx : x2 ≠ 0) (hs : s2 ≠ 0) (ht : t2 ≠ 0)
    (ex : x1 * (b * d) = (a * d + c * b) * x2) (er : r1 * (x2 * q) = x1 * p * r2) (es : s1 * (b * q) = a * p * s2) (et : t1 * (d * q) = c * p * t2) (eu : u1 * (s2 * t2) = (s1 * t2 + t1 * s2) * u2) : r1 * u2 = u1 * r2 := by
  have m1 : q * b * d ≠ 0 := Int.mul_ne_zero (Int.mul_ne_zero hq hb) hd
  have e1 : r1 * u2 * (q * b * d) = (a * d + c * b) * p * r2 * u2 := by
    refine Int.eq_of_mul_eq_mul_left hx ?_
    calc x2 * (r1 * u2 * (q * b * d)) = r1 * (x2 * q) * (u2 * (b * d)) := by grind
      _ = x1 * p * r2 * (u2 * (b * d)) := by rw [er]
      _ = x1 * (b * d) * (p * r2 * u2) := by grind
      _ = (a * d + c * b) * x2 * (p * r2 * u2) := by rw [ex]
      _ = x2 * ((a * d + c * b) * p * r2 * u2) := by grind
  have e2 : u1 * r2 * (q * b * d) = (a * d + c * b) * p * r2 * u2 := by
    refine Int.eq_of_mul_eq_mul_left (Int.mul_ne_zero (Int.mul_ne_zero hs ht) hq) ?_
    calc s2 * t2 * q * (u1 * r2 * (q * b * d)) = u1 * (s2 * t2) * (r2 * (b * q) * (d * q)) := by grind
      _ = (s1 * t2 + t1 * s2) * u2 * (r2 * (b * q) * (d * q)) := by rw [eu]
      _ = (s1 * (b * q)) * (t2 * (d * q) * (u2 * r2)) + (t1 * (d * q)) * (s2 * (b * q) * (u2 * r2)) := by grind
      _ = a * p * s2 * (t2 * (d * q) * (u2 * r2)) + c * p * t2 * (s2 * (b * q) * (u2 * r2)) := by rw [es, et]
      _ = s2 * t2 * q * ((a * d + c * b) * p * r2 * u2) := by grind
  exact Int.eq_of_mul_eq_mul_right m1 (e1.trans e2.symm)
theorem field_j5 {k : Nat} (hk : 4611686018427387911 < k) (e a b c d p q x1 x2 : Int) (he : e = 0 → V a b ∧ V c d ∧ V x1 x2 ∧ x1 * (b * d) = (a * d + c * b) * x2) : assessorlaw46_FractionField.j5 k e a b c d p q x1 x2 = some true := by
  obtain ⟨k, rfl⟩ : ∃ m, k = m + 2 := ⟨k - 2, by omega⟩
  simp only [assessorlaw46_FractionField.j5]
  obtain ⟨r1, r2, r3, er, hr⟩ := opMul_f (k := k + 1) (by omega) x1 x2 p q
  obtain ⟨s1, s2, s3, es, hs⟩ := opMul_f (k := k + 1) (by omega) a b p q
  obtain ⟨t1, t2, t3, et, ht⟩ := opMul_f (k := k + 1) (by omega) c d p q
  obtain ⟨u1, u2, u3, eu, hu⟩ := opAdd_f (k := k + 1) (by omega) s1 s2 t1 t2
  rw [er, es, et]
  simp only [Option.bind_some]
  rw [eu]
  simp only [Option.bind_some, assessorlaw46_FractionField.j6]
  by_cases h0 : e = 0
  · rw [if_pos h0]
    by_cases h1 : r3 = 0
    · by_cases h2 : s3 = 0
      · by_cases h3 : t3 = 0
        · by_cases h4 : u3 = 0
          · rw [if_pos h1, if_pos h2, if_pos h3, if_pos h4]
            subst h1 h2 h3 h4
            obtain ⟨va, vc, vx, ex⟩ := he h0
            obtain ⟨_, vp, _, vr, er'⟩ := hr.ok
            obtain ⟨_, _, _, vs, es'⟩ := hs.ok
            obtain ⟨_, _, _, vt, et'⟩ := ht.ok
            obtain ⟨_, _, _, vu, eu'⟩ := hu.ok
            have := distributes va.pos vc.pos vp.pos vx.pos vs.pos vt.pos ex er' es' et' eu'
            obtain ⟨g1, g2⟩ := coprime_unique vr.1 vu.1 vr.2.2.2.2 vu.2.2.2.2 this
            subst g1 g2
            simp
          · rw [if_pos h1, if_pos h2, if_pos h3, if_neg h4]
        · rw [if_pos h1, if_pos h2, if_neg h3]
      · rw [if_pos h1, if_neg h2]
    · rw [if_neg h1]
  · rw [if_neg h0]
theorem pure_FractionField (a b c d p q : Int) (_ha : (Lit.int .i64 a).wf = true) (_hb : (Lit.int .i64 b).wf = true) (_hc : (Lit.int .i64 c).wf = true) (_hd : (Lit.int .i64 d).wf = true) (_hp : (Lit.int .i64 p).wf = true) (_hq : (Lit.int .i64 q).wf = true) : ∃ k, assessorlaw46_FractionField.f k a b c d p q = some true := by
  refine ⟨4611686018427387990, ?_⟩
  generalize hK : (4611686018427387990 : Nat) = k
  have hk : 4611686018427387930 < k := by omega
  clear hK
  obtain ⟨x1, x2, x3, ex, hx⟩ := opAdd_f (k := k) (by omega) a b c d
  obtain ⟨y1, y2, y3, ey, hy⟩ := opAdd_f (k := k) (by omega) c d a b
  obtain ⟨p1, p2, p3, ep, hp⟩ := opMul_f (k := k) (by omega) a b c d
  obtain ⟨q1, q2, q3, eq, hq⟩ := opMul_f (k := k) (by omega) c d a b
  obtain ⟨rfl, rfl, rfl⟩ := hx.unique (hy.swap (by grind) (Int.mul_comm _ _))
  obtain ⟨rfl, rfl, rfl⟩ := hp.unique (hq.swap (Int.mul_comm _ _) (Int.mul_comm _ _))
  unfold assessorlaw46_FractionField.f
  rw [awake_true (by omega)]
  simp only [Option.bind_some, if_true]
  rw [ex, ey, ep, eq]
  simp only [Option.bind_some, beq_self_eq_true, Bool.not_true, Bool.or_self, Bool.false_eq_true, if_false, if_true, bne_self_eq_false]
  have main5 : ∀ m : Nat, 4611686018427387911 < m → assessorlaw46_FractionField.j5 m x3 a b c d p q x1 x2 = some true := fun m hm => field_j5 hm _ _ _ _ _ _ _ _ _ (fun h => by
    subst h
    obtain ⟨h1, h2, _, h4, h5⟩ := hx.ok
    exact ⟨h1, h2, h4, h5⟩)
  have main3 : ∀ m : Nat, 4611686018427387915 < m → assessorlaw46_FractionField.j3 m x3 (decide (p3 = 0) && (c != 0)) a b c d p q x1 x2 p1 p2 = some true := by
    intro m hm
    obtain ⟨m, rfl⟩ : ∃ j, m = j + 1 := ⟨m - 1, by omega⟩
    simp only [assessorlaw46_FractionField.j3]
    by_cases h0 : p3 = 0
    · by_cases h1 : c = 0
      · rw [if_neg (by simp [h1])]
        exact main5 _ (by omega)
      · rw [if_pos (by simp [h0, h1])]
        subst h0
        obtain ⟨va, vc, _, vp, e⟩ := hp.ok
        obtain ⟨d1, d2, d3, ed, hd⟩ := opDiv_f (k := m) (by omega) p1 p2 c d
        obtain ⟨rfl, rfl, rfl⟩ := hd.is vp vc (Int.mul_ne_zero vp.pos h1) va (by grind)
        rw [ed]
        obtain ⟨m, rfl⟩ : ∃ j, m = j + 1 := ⟨m - 1, by omega⟩
        simp only [Option.bind_some, if_true, assessorlaw46_FractionField.j4, beq_self_eq_true, Bool.not_true, Bool.or_self, Bool.false_eq_true, if_false]
        exact main5 _ (by omega)
    · rw [if_neg (by simp [h0])]
      exact main5 _ (by omega)
  have main2 : ∀ m : Nat, 4611686018427387917 < m → assessorlaw46_FractionField.j2 m x3 p3 a b c d p q x1 x2 p1 p2 = some true := by
    intro m hm
    obtain ⟨m, rfl⟩ : ∃ j, m = j + 1 := ⟨m - 1, by omega⟩
    simp only [assessorlaw46_FractionField.j2]
    have := main3 m (by omega)
    by_cases h0 : p3 = 0
    · rw [if_pos h0]; simpa [h0] using this
    · rw [if_neg h0]; simpa [h0] using this
  obtain ⟨k, rfl⟩ : ∃ j, k = j + 2 := ⟨k - 2, by omega⟩
  simp only [assessorlaw46_FractionField.j0, Bool.false_eq_true, if_false]
  by_cases h0 : x3 = 0
  · subst h0
    obtain ⟨va, vc, _, vx, e⟩ := hx.ok
    obtain ⟨d1, d2, d3, ed, hd⟩ := opSub_f (k := k + 1) (by omega) x1 x2 c d
    obtain ⟨rfl, rfl, rfl⟩ := hd.is vx vc (Int.mul_ne_zero vx.pos vc.pos) va (by grind)
    rw [ed]
    simp only [Option.bind_some, if_true, assessorlaw46_FractionField.j1, beq_self_eq_true, Bool.not_true, Bool.or_self, Bool.false_eq_true, if_false]
    exact main2 _ (by omega)
  · rw [if_neg h0]
    exact main2 _ (by omega)
end Go.Proofs.YtkfibjmjamdigaaDoor.Q
