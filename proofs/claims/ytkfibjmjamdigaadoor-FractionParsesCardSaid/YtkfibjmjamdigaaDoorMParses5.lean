/- Whatever the input: FractionParses returns true, and the input reads afterwards as it read before (the row lists seven variables of the library; the card ties them to the program's text). No further condition. -/
import Derived.ShutString
import Derived.SizedLaws
import Derived.ChangeOld
import Derived.Below
import Derived.SevenTiedAt
import Derived.Test.YtkfibjmjamdigaaDoorMParses0
import Derived.Test.YtkfibjmjamdigaaDoorMParses2
import Derived.Test.YtkfibjmjamdigaaDoorMParses3
import Derived.Test.YtkfibjmjamdigaaDoorMParses4

namespace Go.Proofs.YtkfibjmjamdigaaDoor.Q
set_option linter.unusedVariables false
open Go.RowKit Go.Proofs.YtkfibjmjamdigaaDoorW.PrintWords Go.Proofs.YtkfibjmjamdigaaDoorW.PrintLast Go.Proofs.YtkfibjmjamdigaaDoorW.PrintMore
def Tail (c : UInt8) (tl : List UInt8) : Prop := (∀ x, x ∈ tl → dg x = true) ∧ 1 ≤ tl.length ∧ ((c = 46 ∧ tl.length ≤ 6) ∨ (c = 47 ∧ tl.length ≤ 7))
theorem takeWhile_all : ∀ l : List UInt8, (∀ x, x ∈ l → dg x = true) → l.takeWhile dg = l
  | [], _ => rfl
  | b :: r, h => by rw [List.takeWhile_cons, if_pos (h b (by simp)), takeWhile_all r (fun x hx => h x (List.mem_cons_of_mem _ hx))]
theorem takeWhile_len : ∀ l : List UInt8, (l.takeWhile dg).length ≤ l.length ∧ ((l.takeWhile dg).length = l.length → ∀ x, x ∈ l → dg x = true)
  | [] => ⟨by simp, fun _ x hx => by cases hx⟩
  | b :: r => by
    obtain ⟨h1, h2⟩ := takeWhile_len r
    rw [List.takeWhile_cons]
    by_cases h : dg b = true
    · rw [if_pos h, List.length_cons, List.length_cons]
      refine ⟨by omega, fun e x hx => ?_⟩
      rcases List.mem_cons.1 hx with rfl | hx
      · exact h
      · exact h2 (by omega) x hx
    · rw [if_neg h, List.length_cons, List.length_nil]
      exact ⟨by omega, fun e => by omega⟩
theorem bt_zero {s : ByteArray} {c : UInt8} {tl : List UInt8} (h : s.data.toList = c :: tl) : bt s 0 = (c.toNat : Int) := (drop_bt (s := s) (i := 0) (by simpa using h)).2.1
theorem ref_short {t : ByteArray} {σ : Int} {k : Nat} (hs : t.size ≤ 100) (hk : 400 < k) (h : (t.data.toList.takeWhile dg).length < 1 ∨ (t.data.toList.takeWhile dg).length > 10) : assessorref46_Parse.j1 k t σ = some (0, 0, 3) := by
  obtain ⟨k, rfl⟩ : ∃ m, k = m + 2 := ⟨k - 2, by omega⟩
  obtain ⟨n, e1, e2⟩ := refdigits_f t hs (k := k + 1) (by omega)
  rw [assessorref46_Parse.j1, e1, Option.bind_some]
  by_cases g : ((t.data.toList.takeWhile dg).length : Int) < 1
  · rw [if_pos g, assessorref46_Parse.j2, if_pos rfl]
  · have g2 : decide (((t.data.toList.takeWhile dg).length : Int) > 10) = true := decide_eq_true (by omega)
    rw [if_neg g, g2, assessorref46_Parse.j2, if_pos rfl]

theorem ref_behind {t : ByteArray} {σ : Int} {k : Nat} (hs : t.size ≤ 100) (hk : 400 < k) (h : 1 ≤ (t.data.toList.takeWhile dg).length) (h2 : (t.data.toList.takeWhile dg).length ≤ 10) :
    assessorref46_Parse.j1 (k + 1) t σ = assessorref46_Parse.j2 k t σ ((t.data.toList.takeWhile dg).length : Int) (pv 0 (t.data.toList.takeWhile dg)) false := by
  obtain ⟨n, e1, e2⟩ := refdigits_f t hs (k := k) (by omega)
  have e3 := e2 (by omega)
  subst e3
  have g : ¬ (((t.data.toList.takeWhile dg).length : Int) < 1) := by omega
  have g2 : decide (((t.data.toList.takeWhile dg).length : Int) > 10) = false := decide_eq_false (by omega)
  rw [assessorref46_Parse.j1, e1, Option.bind_some]
  show (if ((t.data.toList.takeWhile dg).length : Int) < 1 then _ else _) = _
  rw [if_neg g]
  show assessorref46_Parse.j2 k t σ _ _ (decide (((t.data.toList.takeWhile dg).length : Int) > 10)) = _
  rw [g2]
theorem ref_end {t : ByteArray} {σ n : Int} {k i : Nat} (hi : i ≤ t.size) (h : t.data.toList.drop i = []) :
    assessorref46_Parse.j2 (k + 1) t σ (i : Int) n false = (assessorref46_reduce.f k (wrap64 (σ * n)) 1) := by
  have g1 : (0 : Int) ≤ (i : Int) := by omega
  have g2 : (i : Int) ≤ (t.size : Int) := by omega
  have g3 : (t.extract ((i : Int)).toNat t.size).toList = [] := by
    rw [Lib.toList_data, show ((i : Int)).toNat = i by omega, Lib.extract_to_end, h]
  rw [assessorref46_Parse.j2, if_neg (by decide), if_pos g1, if_pos g2, if_pos g3]
  cases assessorref46_reduce.f k (wrap64 (σ * n)) 1 <;> rfl
theorem ref_tail {t : ByteArray} {σ n : Int} {k i : Nat} {c : UInt8} {tl : List UInt8} (hs : t.size ≤ 100) (hk : 400 < k) (hi : i ≤ t.size) (h : t.data.toList.drop i = c :: tl) :
    (Tail c tl → ∃ X : ByteArray, X.data.toList = c :: tl ∧ assessorref46_Parse.j2 (k + 1) t σ (i : Int) n false = assessorref46_Parse.j3 k σ n X (tl.length : Int) (pv 0 tl) false) ∧ (¬ Tail c tl → assessorref46_Parse.j2 (k + 1) t σ (i : Int) n false = some (0, 0, 3)) := by
  obtain ⟨k, rfl⟩ : ∃ m, k = m + 1 := ⟨k - 1, by omega⟩
  have g1 : (0 : Int) ≤ (i : Int) := by omega
  have g2 : (i : Int) ≤ (t.size : Int) := by omega
  have ei : ((i : Int)).toNat = i := by omega
  rw [assessorref46_Parse.j2, if_neg (by decide), if_pos g1, if_pos g2, ei]
  generalize hX : t.extract i t.size = X
  have xl : X.data.toList = c :: tl := by rw [← hX, Lib.extract_to_end, h]
  have xs : X.size = tl.length + 1 := by rw [Lib.size_eq X, xl, List.length_cons]
  have xts : X.size ≤ 100 := by
    have := congrArg List.length h
    rw [List.length_drop, List.length_cons, ← Lib.size_eq] at this
    omega
  have g3 : ¬ (X.toList = []) := by rw [Lib.toList_data, xl]; simp
  have g4 : (1 : Int) ≤ (X.size : Int) := by omega
  have g5 : (0 : Int) < (X.size : Int) := by omega
  have yl : (X.extract 1 X.size).data.toList = tl := by rw [Lib.extract_to_end, xl]; rfl
  have ys : (X.extract 1 X.size).size ≤ 100 := by rw [Lib.size_eq, yl]; omega
  obtain ⟨m, e1, e2⟩ := refdigits_f (X.extract 1 X.size) ys (k := k + 1) (by omega)
  rw [yl] at e1 e2
  obtain ⟨tw1, tw2⟩ := takeWhile_len tl
  have ew : wrap64 (((tl.takeWhile dg).length : Int) + 1) = ((tl.takeWhile dg).length : Int) + 1 := w64 (by omega) (by omega)
  have eb := bt_zero xl
  rw [if_neg g3, if_pos g4, e1, Option.bind_some]
  by_cases a1 : (tl.takeWhile dg).length = tl.length
  · have hall := tw2 a1
    have etw := takeWhile_all tl hall
    rw [etw] at e2 ew ⊢
    have a2 : (tl.length : Int) + 1 = (X.size : Int) := by omega
    simp only [ew]
    rw [if_pos a2, if_pos g5, eb]
    by_cases b1 : (tl.length : Int) < 1
    · rw [if_pos b1, assessorref46_Parse.j3, if_pos rfl]
      exact ⟨fun ht => by have := ht.2.1; omega, fun _ => rfl⟩
    · rw [if_neg b1]
      by_cases c1 : c = 46
      · have c1' : (c.toNat : Int) = 46 := by rw [c1]; rfl
        rw [if_pos c1']
        by_cases d1 : (tl.length : Int) > 6
        · rw [if_pos d1, assessorref46_Parse.j3, if_pos rfl]
          refine ⟨fun ht => ?_, fun _ => rfl⟩
          rcases ht.2.2 with x | x
          · omega
          · rw [c1] at x; exact absurd x.1 (by decide)
        · have d2 : decide ((tl.length : Int) > 7) = false := decide_eq_false (by omega)
          rw [if_neg d1, d2, e2 (by omega)]
          exact ⟨fun _ => ⟨X, xl, rfl⟩, fun hn => absurd ⟨hall, by omega, .inl ⟨c1, by omega⟩⟩ hn⟩
      · have c1' : ¬ ((c.toNat : Int) = 46) := fun x => c1 (UInt8.toNat_inj.1 (by have : (46 : UInt8).toNat = 46 := rfl; omega))
        rw [if_neg c1']
        by_cases c2 : c = 47
        · have c2' : (c.toNat : Int) = 47 := by rw [c2]; rfl
          rw [if_pos c2']
          by_cases d1 : (tl.length : Int) > 7
          · rw [decide_eq_true d1, assessorref46_Parse.j3, if_pos rfl]
            refine ⟨fun ht => ?_, fun _ => rfl⟩
            rcases ht.2.2 with x | x
            · exact absurd x.1 c1
            · omega
          · rw [decide_eq_false d1, e2 (by omega)]
            exact ⟨fun _ => ⟨X, xl, rfl⟩, fun hn => absurd ⟨hall, by omega, .inr ⟨c2, by omega⟩⟩ hn⟩
        · have c2' : ¬ ((c.toNat : Int) = 47) := fun x => c2 (UInt8.toNat_inj.1 (by have : (47 : UInt8).toNat = 47 := rfl; omega))
          rw [if_neg c2', assessorref46_Parse.j3, if_pos rfl]
          refine ⟨fun ht => ?_, fun _ => rfl⟩
          rcases ht.2.2 with x | x
          · exact absurd x.1 c1
          · exact absurd x.1 c2
  · have a2 : ¬ (((tl.takeWhile dg).length : Int) + 1 = (X.size : Int)) := by omega
    simp only [ew]
    rw [if_neg a2, assessorref46_Parse.j3, if_pos rfl]
    exact ⟨fun ht => absurd (by rw [takeWhile_all tl ht.1]) a1, fun _ => rfl⟩
theorem ref_den : ∀ (d : Nat) (k : Nat) (σ n m : Int) (j i : Nat) (p : Int), j = i + d → j ≤ 6 → d + 1 < k → p = ((10 ^ i : Nat) : Int) → assessorref46_Parse.l0 k σ n (j : Int) m p (i : Int) = assessorref46_reduce.f (k - d - 1) (wrap64 (σ * wrap64 (wrap64 (n * ((10 ^ j : Nat) : Int)) + m))) ((10 ^ j : Nat) : Int)
  | 0, 0, _, _, _, _, _, _, _, _, hk, _ => by omega
  | 0, k + 1, σ, n, m, j, i, p, hj, hj6, hk, hp => by
    subst hp
    obtain rfl : j = i := by omega
    rw [assessorref46_Parse.l0, if_neg (by omega)]
    show (assessorref46_reduce.f k _ _).bind _ = assessorref46_reduce.f k _ _
    cases assessorref46_reduce.f k (wrap64 (σ * wrap64 (wrap64 (n * ((10 ^ j : Nat) : Int)) + m))) ((10 ^ j : Nat) : Int) <;> rfl
  | d + 1, 0, _, _, _, _, _, _, _, _, hk, _ => by omega
  | d + 1, k + 1, σ, n, m, j, i, p, hj, hj6, hk, hp => by
    have hq : 10 ^ i ≤ 10 ^ 6 := Nat.pow_le_pow_right (by decide) (by omega)
    have e6 : (10 : Nat) ^ 6 = 1000000 := by decide
    have ep : wrap64 (10 * p) = ((10 ^ (i + 1) : Nat) : Int) := by
      rw [hp, Nat.pow_succ]
      rw [e6] at hq
      clear hp
      generalize 10 ^ i = M at hq ⊢
      rw [w64 (by omega) (by omega)]; omega
    have ei : wrap64 ((i : Int) + 1) = ((i + 1 : Nat) : Int) := by rw [w64 (by omega) (by omega)]; omega
    rw [assessorref46_Parse.l0, if_pos (by omega), ep, ei, ref_den d k σ n m j (i + 1) _ (by omega) hj6 (by omega) rfl]
    congr 1
    omega
end Go.Proofs.YtkfibjmjamdigaaDoor.Q


namespace Go.Proofs.YtkfibjmjamdigaaDoor.Q
set_option linter.unusedVariables false
open Go.RowKit Go.Proofs.YtkfibjmjamdigaaDoorW.PrintWords Go.Proofs.YtkfibjmjamdigaaDoorW.PrintLast Go.Proofs.YtkfibjmjamdigaaDoorW.PrintMore
def OkD (l : List UInt8) (m : Nat) : Prop := l ≠ [] ∧ l.length ≤ m ∧ ∀ x, x ∈ l → dg x = true
theorem size_mk (l : List UInt8) : (⟨l.toArray⟩ : ByteArray).size = l.length := by rw [Lib.size_eq]
theorem digits_ok' {l : List UInt8} {m : Nat} (hm : m ≤ 18) (h : OkD l m) : fraction_digits.f ⟨l.toArray⟩ (m : Int) = some (pv 0 l, true) := by
  obtain ⟨h1, h2, h3⟩ := h
  have e := size_mk l
  have hl : l.length ≠ 0 := fun x => h1 (List.length_eq_zero_iff.1 x)
  exact digits_ok ⟨l.toArray⟩ m (by omega) (by omega) (by omega) h3
theorem digits_no' {l : List UInt8} {m : Nat} (hm : m ≤ 18) (h : ¬ OkD l m) : fraction_digits.f ⟨l.toArray⟩ (m : Int) = some (0, false) := by
  have e := size_mk l
  refine digits_no ⟨l.toArray⟩ m (by omega) (fun x => h ⟨?_, by omega, x.2.2⟩)
  rintro rfl
  exact x.1 rfl
theorem cutf {t : ByteArray} (c : UInt8) (ht : t.size ≤ 1000) : strings_Cut.f t ⟨#[c]⟩ = some (cut1 t c) := by
  show (if t.size ≤ 1000 then some (cut1 t c) else none) = _
  rw [if_pos ht]
theorem cut1_at {t : ByteArray} {c : UInt8} {A B : List UInt8} (h : t.data.toList = A ++ c :: B) (hA : c ∉ A) : cut1 t c = (⟨A.toArray⟩, ⟨B.toArray⟩, true) := by
  unfold cut1; rw [h, cut_at c A B hA]
theorem cut1_none {t : ByteArray} {c : UInt8} (h : c ∉ t.data.toList) : cut1 t c = (⟨t.data.toList.toArray⟩, ⟨[].toArray⟩, false) := by
  unfold cut1; rw [cut_none c _ h]
theorem split_at (c : UInt8) : ∀ l : List UInt8, c ∈ l → ∃ A B, l = A ++ c :: B ∧ c ∉ A
  | [], h => by cases h
  | b :: r, h => by
    by_cases e : b = c
    · subst e; exact ⟨[], r, rfl, by simp⟩
    · rcases List.mem_cons.1 h with x | x
      · exact absurd x.symm e
      · obtain ⟨A, B, h1, h2⟩ := split_at c r x
        exact ⟨b :: A, B, by rw [h1]; rfl, fun y => by
          rcases List.mem_cons.1 y with z | z
          · exact e z.symm
          · exact h2 z⟩
theorem parts_any : ∀ (d k : Nat) (a : Int) (is : Bool) (b : Int) (are : Bool) (den : Int) (len i : Nat), len = i + d → len ≤ 100 → d < k → ∃ x y, fraction_parts.l0 k a is b are den (len : Int) (i : Int) = some (x, y, is && are)
  | d, 0, _, _, _, _, _, _, _, _, _, hk => by omega
  | 0, k + 1, a, is, b, are, den, len, i, hl, h1, hk => by
    rw [fraction_parts.l0, if_neg (by omega)]
    cases is <;> exact ⟨_, _, rfl⟩
  | d + 1, k + 1, a, is, b, are, den, len, i, hl, h1, hk => by
    have ei : wrap64 ((i : Int) + 1) = ((i + 1 : Nat) : Int) := by rw [w64 (by omega) (by omega)]; omega
    rw [fraction_parts.l0, if_pos (by omega), ei]
    by_cases g : wrap64 (den * 10) > 1000000
    · rw [if_pos g]
      cases is <;> exact ⟨_, _, rfl⟩
    · rw [if_neg g]
      exact parts_any d k a is b are _ len (i + 1) (by omega) h1 (by omega)
theorem parts_den : ∀ (d k : Nat) (a b : Int) (j i : Nat) (p : Int), j = i + d → j ≤ 6 → d < k → p = ((10 ^ i : Nat) : Int) → fraction_parts.l0 k a true b true p (j : Int) (i : Int) = some (wrap64 (wrap64 (a * ((10 ^ j : Nat) : Int)) + b), ((10 ^ j : Nat) : Int), true)
  | d, 0, _, _, _, _, _, _, _, hk, _ => by omega
  | 0, k + 1, a, b, j, i, p, hj, hj6, hk, hp => by
    subst hp
    obtain rfl : j = i := by omega
    rw [fraction_parts.l0, if_neg (by omega)]
    rfl
  | d + 1, k + 1, a, b, j, i, p, hj, hj6, hk, hp => by
    have hq : 10 ^ (i + 1) ≤ 10 ^ 6 := Nat.pow_le_pow_right (by decide) (by omega)
    have e6 : (10 : Nat) ^ 6 = 1000000 := by decide
    have ep : wrap64 (p * 10) = ((10 ^ (i + 1) : Nat) : Int) := by
      rw [hp]
      rw [e6, Nat.pow_succ] at hq
      rw [Nat.pow_succ]
      clear hp
      generalize 10 ^ i = M at hq ⊢
      rw [w64 (by omega) (by omega)]; omega
    have ei : wrap64 ((i : Int) + 1) = ((i + 1 : Nat) : Int) := by rw [w64 (by omega) (by omega)]; omega
    have g : ¬ (((10 ^ (i + 1) : Nat) : Int) > 1000000) := by
      rw [e6] at hq
      generalize 10 ^ (i + 1) = M at hq ⊢
      omega
    rw [fraction_parts.l0, if_pos (by omega), ep, if_neg g, ei]
    exact parts_den d k a b j (i + 1) _ (by omega) hj6 (by omega) rfl
theorem parts_slash {t : ByteArray} {A B : List UInt8} {k : Nat} (ht : t.size ≤ 100) (h : t.data.toList = A ++ 47 :: B) (hA : (47 : UInt8) ∉ A) :
    (OkD A 10 ∧ OkD B 7 → fraction_parts.f k t = some (pv 0 A, pv 0 B, true)) ∧ (¬ (OkD A 10 ∧ OkD B 7) → ∃ x y, fraction_parts.f k t = some (x, y, false)) := by
  have e : fraction_parts.f k t = ((fraction_digits.f ⟨A.toArray⟩ 10).bind fun bt389 => ((fraction_digits.f ⟨B.toArray⟩ 7).bind fun bt391 => (if bt389.2 = true then (some (bt389.1, bt391.1, bt391.2)) else (some (bt389.1, bt391.1, false))))) := by
    rw [fraction_parts.f, cutf 47 (by omega), Option.bind_some, cut1_at h hA, if_pos rfl]
  rw [e]
  by_cases a : OkD A 10
  · have ea : fraction_digits.f ⟨A.toArray⟩ 10 = some (pv 0 A, true) := digits_ok' (m := 10) (by omega) a
    by_cases b : OkD B 7
    · have eb : fraction_digits.f ⟨B.toArray⟩ 7 = some (pv 0 B, true) := digits_ok' (m := 7) (by omega) b
      rw [ea, eb]
      exact ⟨fun _ => rfl, fun n => absurd ⟨a, b⟩ n⟩
    · have eb : fraction_digits.f ⟨B.toArray⟩ 7 = some (0, false) := digits_no' (m := 7) (by omega) b
      rw [ea, eb]
      exact ⟨fun n => absurd n.2 b, fun _ => ⟨_, _, rfl⟩⟩
  · have ea : fraction_digits.f ⟨A.toArray⟩ 10 = some (0, false) := digits_no' (m := 10) (by omega) a
    refine ⟨fun n => absurd n.1 a, fun _ => ?_⟩
    by_cases b : OkD B 7
    · have eb : fraction_digits.f ⟨B.toArray⟩ 7 = some (pv 0 B, true) := digits_ok' (m := 7) (by omega) b
      rw [ea, eb]; exact ⟨_, _, rfl⟩
    · have eb : fraction_digits.f ⟨B.toArray⟩ 7 = some (0, false) := digits_no' (m := 7) (by omega) b
      rw [ea, eb]; exact ⟨_, _, rfl⟩
theorem parts_dot {t : ByteArray} {A B : List UInt8} {k : Nat} (hk : 200 < k) (ht : t.size ≤ 100) (h7 : (47 : UInt8) ∉ t.data.toList) (h : t.data.toList = A ++ 46 :: B) (hA : (46 : UInt8) ∉ A) :
    (OkD A 10 ∧ OkD B 6 → fraction_parts.f k t = some (wrap64 (wrap64 (pv 0 A * ((10 ^ B.length : Nat) : Int)) + pv 0 B), ((10 ^ B.length : Nat) : Int), true)) ∧ (¬ (OkD A 10 ∧ OkD B 6) → ∃ x y, fraction_parts.f k t = some (x, y, false)) := by
  have hlen : B.length ≤ 100 := by
    have := Lib.size_eq t
    rw [h, List.length_append, List.length_cons] at this
    omega
  have e : fraction_parts.f k t = ((fraction_digits.f ⟨A.toArray⟩ 10).bind fun bt396 => ((fraction_digits.f ⟨B.toArray⟩ 6).bind fun bt398 => (fraction_parts.l0 k bt396.1 bt396.2 bt398.1 bt398.2 1 (B.length : Int) 0))) := by
    rw [fraction_parts.f, cutf 47 (by omega), Option.bind_some, cut1_none h7, if_neg (show ¬ (false = true) by decide), cutf 46 (by omega), Option.bind_some, cut1_at h hA]
    show ((fraction_digits.f ⟨A.toArray⟩ 10).bind fun bt396 => (if true = true then _ else _)) = _
    congr 1
  rw [e]
  by_cases a : OkD A 10
  · have ea : fraction_digits.f ⟨A.toArray⟩ 10 = some (pv 0 A, true) := digits_ok' (m := 10) (by omega) a
    by_cases b : OkD B 6
    · have eb : fraction_digits.f ⟨B.toArray⟩ 6 = some (pv 0 B, true) := digits_ok' (m := 6) (by omega) b
      rw [ea, eb]
      refine ⟨fun _ => ?_, fun n => absurd ⟨a, b⟩ n⟩
      exact parts_den B.length k _ _ B.length 0 1 (by omega) b.2.1 (by omega) rfl
    · have eb : fraction_digits.f ⟨B.toArray⟩ 6 = some (0, false) := digits_no' (m := 6) (by omega) b
      rw [ea, eb]
      refine ⟨fun n => absurd n.2 b, fun _ => ?_⟩
      exact parts_any B.length k _ _ _ _ _ B.length 0 (by omega) hlen (by omega)
  · have ea : fraction_digits.f ⟨A.toArray⟩ 10 = some (0, false) := digits_no' (m := 10) (by omega) a
    refine ⟨fun n => absurd n.1 a, fun _ => ?_⟩
    by_cases b : OkD B 6
    · have eb : fraction_digits.f ⟨B.toArray⟩ 6 = some (pv 0 B, true) := digits_ok' (m := 6) (by omega) b
      rw [ea, eb]; exact parts_any B.length k _ _ _ _ _ B.length 0 (by omega) hlen (by omega)
    · have eb : fraction_digits.f ⟨B.toArray⟩ 6 = some (0, false) := digits_no' (m := 6) (by omega) b
      rw [ea, eb]; exact parts_any B.length k _ _ _ _ _ B.length 0 (by omega) hlen (by omega)
theorem parts_plain {t : ByteArray} {k : Nat} (ht : t.size ≤ 100) (h7 : (47 : UInt8) ∉ t.data.toList) (h6 : (46 : UInt8) ∉ t.data.toList) :
    (OkD t.data.toList 10 → fraction_parts.f k t = some (pv 0 t.data.toList, 1, true)) ∧ (¬ OkD t.data.toList 10 → fraction_parts.f k t = some (0, 1, false)) := by
  have e : fraction_parts.f k t = ((fraction_digits.f ⟨t.data.toList.toArray⟩ 10).bind fun bt396 => some (bt396.1, 1, bt396.2)) := by
    rw [fraction_parts.f, cutf 47 (by omega), Option.bind_some, cut1_none h7, if_neg (show ¬ (false = true) by decide), cutf 46 (by omega), Option.bind_some, cut1_none h6]
    show ((fraction_digits.f ⟨t.data.toList.toArray⟩ 10).bind fun bt396 => (if false = true then _ else _)) = _
    congr 1
  rw [e]
  by_cases a : OkD t.data.toList 10
  · have ea : fraction_digits.f ⟨t.data.toList.toArray⟩ 10 = some (pv 0 t.data.toList, true) := digits_ok' (m := 10) (by omega) a
    rw [ea]; exact ⟨fun _ => rfl, fun n => absurd a n⟩
  · have ea : fraction_digits.f ⟨t.data.toList.toArray⟩ 10 = some (0, false) := digits_no' (m := 10) (by omega) a
    rw [ea]; exact ⟨fun n => absurd n a, fun _ => rfl⟩

theorem tw_dg : ∀ (l : List UInt8) (x : UInt8), x ∈ l.takeWhile dg → dg x = true
  | [], x, h => by cases h
  | b :: r, x, h => by
    rw [List.takeWhile_cons] at h
    by_cases g : dg b = true
    · rw [if_pos g] at h
      rcases List.mem_cons.1 h with rfl | h
      · exact g
      · exact tw_dg r x h
    · rw [if_neg g] at h; cases h
theorem tw_parts : ∀ l : List UInt8, ∃ rs, l = l.takeWhile dg ++ rs ∧ l.drop (l.takeWhile dg).length = rs ∧ ∀ c tl, rs = c :: tl → dg c = false
  | [] => ⟨[], rfl, rfl, fun c tl h => by cases h⟩
  | b :: r => by
    rw [List.takeWhile_cons]
    by_cases g : dg b = true
    · rw [if_pos g]
      obtain ⟨rs, h1, h2, h3⟩ := tw_parts r
      refine ⟨rs, ?_, ?_, h3⟩
      · rw [List.cons_append, ← h1]
      · rw [List.length_cons, List.drop_succ_cons, h2]
    · rw [if_neg g]
      refine ⟨b :: r, rfl, rfl, fun c tl h => ?_⟩
      obtain ⟨rfl, _⟩ := List.cons.inj h
      simpa using g
theorem tw_app {A B : List UInt8} {c : UInt8} (hA : ∀ x, x ∈ A → dg x = true) (hc : dg c = false) : (A ++ c :: B).takeWhile dg = A := by
  induction A with
  | nil => rw [List.nil_append, List.takeWhile_cons, if_neg (by rw [hc]; decide)]
  | cons a A ih =>
    rw [List.cons_append, List.takeWhile_cons, if_pos (hA a (by simp)), ih (fun x hx => hA x (List.mem_cons_of_mem _ hx))]
theorem not_dg_mem {l : List UInt8} {c : UInt8} (hc : dg c = false) (h : ∀ x, x ∈ l → dg x = true) : c ∉ l := fun x => by
  have := h c x
  rw [hc] at this; cases this
theorem pv_le {l : List UInt8} {m : Nat} (hl : l.length ≤ m) (h : ∀ x, x ∈ l → dg x = true) : 0 ≤ pv 0 l ∧ pv 0 l + 1 ≤ ((10 ^ m : Nat) : Int) := by
  obtain ⟨h1, h2⟩ := pv_range l 0 1 (by omega) (by omega) h
  have h3 : 1 * 10 ^ l.length ≤ 10 ^ m := by rw [Nat.one_mul]; exact Nat.pow_le_pow_right (by decide) hl
  exact ⟨h1, by omega⟩

def after (k : Nat) (neg : Bool) (x : Int × Int × Bool) : Option (Int × Int × Int) := if x.2.2 = true then (if x.2.1 = 0 then (some (0, 0, 2)) else (if neg = true then ((fraction_reduced.f k (wrap64 (-x.1)) x.2.1).bind fun bt406 => (some (bt406.1, bt406.2.1, bt406.2.2))) else ((fraction_reduced.f k x.1 x.2.1).bind fun bt409 => (some (bt409.1, bt409.2.1, bt409.2.2))))) else (some (0, 0, 3))
theorem fin {num den : Int} (hn0 : 0 ≤ num) (hn : num ≤ 100000000000000000) (hd0 : 1 ≤ den) (hd : den ≤ 100000000) (neg : Bool) (σ : Int) (hσ : σ = if neg = true then -1 else 1) :
    ∃ r, ∀ k m, 4611686018427387910 ≤ k → 4611686018427387910 ≤ m → after k neg (num, den, true) = some r ∧ assessorref46_reduce.f m (wrap64 (σ * num)) den = some r := by
  have hz : ¬ (den = 0) := by omega
  cases neg with
  | false =>
    rw [if_neg (show ¬ (false = true) by decide)] at hσ
    have e : wrap64 (σ * num) = num := by rw [hσ, Int.one_mul]; exact w64 (by omega) (by omega)
    obtain ⟨r, hr⟩ := reductions7 (n := num) (d := den) hz (by omega) (by omega) (by omega) (by omega)
    refine ⟨r, fun k m hk hm => ⟨?_, ?_⟩⟩
    · show (if true = true then (if den = 0 then _ else (if false = true then _ else _)) else _) = _
      rw [if_pos rfl, if_neg hz, if_neg (show ¬ (false = true) by decide)]
      show (fraction_reduced.f k num den).bind _ = _
      rw [(hr k hk).1]; rfl
    · rw [e]; exact (hr m hm).2
  | true =>
    rw [if_pos rfl] at hσ
    have e1 : wrap64 (-num) = -num := w64 (by omega) (by omega)
    have e : wrap64 (σ * num) = -num := by rw [hσ, Int.neg_mul, Int.one_mul]; exact e1
    obtain ⟨r, hr⟩ := reductions7 (n := -num) (d := den) hz (by omega) (by omega) (by omega) (by omega)
    refine ⟨r, fun k m hk hm => ⟨?_, ?_⟩⟩
    · show (if true = true then (if den = 0 then _ else (if true = true then _ else _)) else _) = _
      rw [if_pos rfl, if_neg hz, if_pos rfl]
      show (fraction_reduced.f k (wrap64 (-num)) den).bind _ = _
      rw [e1, (hr k hk).1]; rfl
    · rw [e]; exact (hr m hm).2

theorem prog_bad {t : ByteArray} (ht : t.size ≤ 60) {k : Nat} (hk : 4611686018427388400 < k) (neg : Bool)
    (h1 : ¬ OkD t.data.toList 10) (h2 : ∀ A B, t.data.toList = A ++ 47 :: B → ¬ (OkD A 10 ∧ OkD B 7)) (h3 : ∀ A B, t.data.toList = A ++ 46 :: B → ¬ (OkD A 10 ∧ OkD B 6)) : (fraction_parts.f k t).bind (after k neg) = some (0, 0, 3) := by
  by_cases m7 : (47 : UInt8) ∈ t.data.toList
  · obtain ⟨A, B, e, hA⟩ := split_at 47 _ m7
    obtain ⟨x, y, q⟩ := (parts_slash (k := k) (by omega) e hA).2 (h2 A B e)
    rw [q]; rfl
  · by_cases m6 : (46 : UInt8) ∈ t.data.toList
    · obtain ⟨A, B, e, hA⟩ := split_at 46 _ m6
      obtain ⟨x, y, q⟩ := (parts_dot (k := k) (by omega) (by omega) m7 e hA).2 (h3 A B e)
      rw [q]; rfl
    · rw [(parts_plain (k := k) (by omega) m7 m6).2 h1]; rfl
theorem core {t : ByteArray} (ht : t.size ≤ 60) (neg : Bool) (σ : Int) (hσ : σ = if neg = true then -1 else 1) {k m : Nat} (hk : 4611686018427388400 < k) (hm : 4611686018427388400 < m) :
    ∃ r, (fraction_parts.f k t).bind (after k neg) = some r ∧ assessorref46_Parse.j1 m t σ = some r := by
  have n47 : dg 47 = false := by decide
  have n46 : dg 46 = false := by decide
  have hsz := Lib.size_eq t
  obtain ⟨rs, e1, e2, e3⟩ := tw_parts t.data.toList
  have hds := tw_dg t.data.toList
  have hle := (takeWhile_len t.data.toList).1
  by_cases hs : (t.data.toList.takeWhile dg).length < 1 ∨ (t.data.toList.takeWhile dg).length > 10
  · refine ⟨_, prog_bad ht hk neg ?_ ?_ ?_, ref_short (by omega) (by omega) hs⟩
    · rintro ⟨g1, g2, g3⟩
      rw [takeWhile_all _ g3] at hs
      have : t.data.toList.length ≠ 0 := fun x => g1 (List.length_eq_zero_iff.1 x)
      omega
    · rintro A B e ⟨⟨g1, g2, g3⟩, _⟩
      rw [e, tw_app g3 n47] at hs
      have : A.length ≠ 0 := fun x => g1 (List.length_eq_zero_iff.1 x)
      omega
    · rintro A B e ⟨⟨g1, g2, g3⟩, _⟩
      rw [e, tw_app g3 n46] at hs
      have : A.length ≠ 0 := fun x => g1 (List.length_eq_zero_iff.1 x)
      omega
  · obtain ⟨m, rfl⟩ : ∃ q, m = q + 2 := ⟨m - 2, by omega⟩
    rw [ref_behind (k := m + 1) (by omega) (by omega) (by omega) (by omega)]
    generalize hD : t.data.toList.takeWhile dg = ds at *
    have hne : ds ≠ [] := by rintro rfl; simp at hs
    have od : OkD ds 10 := ⟨hne, by omega, hds⟩
    have pd := pv_le (m := 10) od.2.1 hds
    have e10 : ((10 ^ 10 : Nat) : Int) = 10000000000 := by decide
    rw [e10] at pd
    cases rs with
    | nil =>
      rw [List.append_nil] at e1
      obtain ⟨r, hr⟩ := fin (num := pv 0 ds) (den := 1) pd.1 (by omega) (by omega) (by omega) neg σ hσ
      have q := (parts_plain (t := t) (k := k) (by omega) (by rw [e1]; exact not_dg_mem n47 hds) (by rw [e1]; exact not_dg_mem n46 hds)).1 (by rw [e1]; exact od)
      refine ⟨r, ?_, ?_⟩
      · rw [q, e1]; exact (hr k m (by omega) (by omega)).1
      · rw [ref_end (by omega) e2]
        exact (hr k m (by omega) (by omega)).2
    | cons c tl =>
      have hc := e3 c tl rfl
      obtain ⟨r1, r2⟩ := ref_tail (t := t) (σ := σ) (n := pv 0 ds) (k := m) (by omega) (by omega) (by omega) e2
      by_cases T : Tail c tl
      · obtain ⟨X, x1, x2⟩ := r1 T
        obtain ⟨m, rfl⟩ : ∃ q, m = q + 1 := ⟨m - 1, by omega⟩
        have xs : X.size = tl.length + 1 := by rw [Lib.size_eq X, x1, List.length_cons]
        have g5 : (0 : Int) < (X.size : Int) := by omega
        have eb := bt_zero x1
        obtain ⟨t1, t2, t3⟩ := T
        have htn : tl ≠ [] := by rintro rfl; simp at t2
        rw [x2, assessorref46_Parse.j3, if_neg (show ¬ (false = true) by decide), if_pos g5, eb]
        rcases t3 with ⟨rfl, t3⟩ | ⟨rfl, t3⟩
        · have c1 : ¬ (((46 : UInt8).toNat : Int) = 47) := by decide
          have ot : OkD tl 6 := ⟨htn, t3, t1⟩
          have pt := pv_le (m := 6) t3 t1
          have p6 : 10 ^ tl.length ≤ 10 ^ 6 := Nat.pow_le_pow_right (by decide) t3
          have p0 : 0 < 10 ^ tl.length := Nat.pow_pos (by decide)
          have e6 : (10 : Nat) ^ 6 = 1000000 := by decide
          rw [e6] at p6 pt
          have hm7 : (47 : UInt8) ∉ t.data.toList := by
            rw [e1]
            intro x
            rcases List.mem_append.1 x with x | x
            · exact not_dg_mem n47 hds x
            · rcases List.mem_cons.1 x with x | x
              · exact absurd x (by decide)
              · exact not_dg_mem n47 t1 x
          have q := (parts_dot (t := t) (k := k) (by omega) (by omega) hm7 e1 (not_dg_mem n46 hds)).1 ⟨od, ot⟩
          have qd : assessorref46_Parse.l0 m σ (pv 0 ds) (tl.length : Int) (pv 0 tl) 1 0 = assessorref46_reduce.f (m - tl.length - 1) (wrap64 (σ * wrap64 (wrap64 (pv 0 ds * ((10 ^ tl.length : Nat) : Int)) + pv 0 tl))) ((10 ^ tl.length : Nat) : Int) := ref_den tl.length m σ (pv 0 ds) (pv 0 tl) tl.length 0 1 (by omega) t3 (by omega) rfl
          rw [if_neg c1, qd, q]
          clear q qd r1 r2 x2
          generalize 10 ^ tl.length = M at p6 p0
          have pb := prod_bound (x := pv 0 ds) (y := (M : Int)) (X := 10000000000) (Y := 1000000) (by omega) (by omega) (by omega) (by omega)
          have pn : 0 ≤ pv 0 ds * (M : Int) := Int.mul_nonneg pd.1 (by omega)
          generalize pv 0 ds * (M : Int) = N at pb pn
          have w1 : wrap64 N = N := w64 (by omega) (by omega)
          have w2 : wrap64 (N + pv 0 tl) = N + pv 0 tl := w64 (by omega) (by omega)
          rw [w1, w2]
          clear w1 w2
          obtain ⟨r, hr⟩ := fin (num := N + pv 0 tl) (den := (M : Int)) (by omega) (by omega) (by omega) (by omega) neg σ hσ
          exact ⟨r, (hr k (m - tl.length - 1) (by omega) (by omega)).1, (hr k (m - tl.length - 1) (by omega) (by omega)).2⟩
        · have c1 : (((47 : UInt8).toNat : Int) = 47) := by decide
          have ot : OkD tl 7 := ⟨htn, t3, t1⟩
          have pt := pv_le (m := 7) t3 t1
          have e7 : ((10 ^ 7 : Nat) : Int) = 10000000 := by decide
          rw [e7] at pt
          have q := (parts_slash (t := t) (k := k) (by omega) e1 (not_dg_mem n47 hds)).1 ⟨od, ot⟩
          rw [if_pos c1, q]
          by_cases z : pv 0 tl = 0
          · rw [if_pos z]
            refine ⟨(0, 0, 2), ?_, rfl⟩
            show after k neg (pv 0 ds, pv 0 tl, true) = _
            simp only [after, z, if_true]
          · rw [if_neg z]
            obtain ⟨r, hr⟩ := fin (num := pv 0 ds) (den := pv 0 tl) pd.1 (by omega) (by omega) (by omega) neg σ hσ
            refine ⟨r, (hr k m (by omega) (by omega)).1, ?_⟩
            rw [(hr k m (by omega) (by omega)).2]; rfl
      · refine ⟨_, prog_bad ht hk neg ?_ ?_ ?_, r2 T⟩
        · rintro ⟨g1, g2, g3⟩
          have := g3 c (by rw [e1]; simp)
          rw [hc] at this; cases this
        · rintro A B e ⟨⟨g1, g2, g3⟩, ⟨g4, g5, g6⟩⟩
          have ea : ds = A := by rw [← hD, e, tw_app g3 n47]
          subst ea
          rw [e] at e1
          obtain ⟨rfl, rfl⟩ := List.cons.inj (List.append_cancel_left e1)
          have : B.length ≠ 0 := fun x => g4 (List.length_eq_zero_iff.1 x)
          exact T ⟨g6, by omega, .inr ⟨rfl, g5⟩⟩
        · rintro A B e ⟨⟨g1, g2, g3⟩, ⟨g4, g5, g6⟩⟩
          have ea : ds = A := by rw [← hD, e, tw_app g3 n46]
          subst ea
          rw [e] at e1
          obtain ⟨rfl, rfl⟩ := List.cons.inj (List.append_cancel_left e1)
          have : B.length ≠ 0 := fun x => g4 (List.length_eq_zero_iff.1 x)
          exact T ⟨g6, by omega, .inl ⟨rfl, g5⟩⟩
theorem parse_same (s : ByteArray) (hs : s.size ≤ 60) {k : Nat} (hk : 4611686018427388600 < k) : ∃ r, fraction_Parse.f k s = some r ∧ assessorref46_Parse.f k s = some r := by
  obtain ⟨k, rfl⟩ : ∃ q, k = q + 1 := ⟨k - 1, by omega⟩
  have hsz := Lib.size_eq s
  have ep : fraction_Parse.f (k + 1) s = (fraction_parts.f (k + 1) ⟨(Lib.trimPrefix s.data.toList [45]).toArray⟩).bind (after (k + 1) (Lib.hasPrefix s.data.toList [45])) := rfl
  rw [ep]
  cases hl : s.data.toList with
  | nil =>
    have h0 : s.size = 0 := by rw [hsz, hl]; rfl
    have es : (⟨([] : List UInt8).toArray⟩ : ByteArray) = s := by
      obtain ⟨⟨l⟩⟩ := s
      simp only at hl
      subst hl
      rfl
    have g : ¬ ((s.size : Int) > 0) := by omega
    rw [assessorref46_Parse.f, if_neg g, assessorref46_Parse.j0, if_neg (show ¬ (false = true) by decide)]
    have e2 : Lib.trimPrefix [] [45] = [] := by decide
    have e3 : Lib.hasPrefix [] [45] = false := by decide
    rw [e2, e3, es]
    exact core (by omega) false 1 rfl (by omega) (by omega)
  | cons b r =>
    have h0 : s.size = r.length + 1 := by rw [hsz, hl]; rfl
    have g : (s.size : Int) > 0 := by omega
    have g' : (0 : Int) < (s.size : Int) := by omega
    have eb := bt_zero hl
    rw [assessorref46_Parse.f, if_pos g, if_pos g', eb, assessorref46_Parse.j0]
    by_cases c : b = 45
    · subst c
      have c1 : (((45 : UInt8).toNat : Int) == 45) = true := by decide
      have g1 : (1 : Int) ≤ (s.size : Int) := by omega
      have e2 : Lib.trimPrefix (45 :: r) [45] = r := by simp [Lib.trimPrefix, Lib.hasPrefix]
      have e3 : Lib.hasPrefix (45 :: r) [45] = true := by simp [Lib.hasPrefix]
      have es : s.extract 1 s.size = (⟨r.toArray⟩ : ByteArray) := by
        have h1 : (s.extract 1 s.size).data.toList = r := by rw [Lib.extract_to_end, hl]; rfl
        generalize s.extract 1 s.size = X at h1
        obtain ⟨⟨l⟩⟩ := X
        simp only at h1
        subst h1
        rfl
      rw [c1, if_pos rfl, if_pos g1, e2, e3, es]
      have hz := size_mk r
      exact core (by omega) true (-1) rfl (by omega) (by omega)
    · have c1 : (((b.toNat : Nat) : Int) == 45) = false := by
        rw [beq_eq_false_iff_ne]
        intro x
        exact c (UInt8.toNat_inj.1 (by have : (45 : UInt8).toNat = 45 := rfl; omega))
      have cb : (45 == b) = false := by rw [beq_eq_false_iff_ne]; exact fun x => c x.symm
      have e3 : Lib.hasPrefix (b :: r) [45] = false := by simp only [Lib.hasPrefix, List.isPrefixOf, cb, Bool.false_and]
      have e2 : Lib.trimPrefix (b :: r) [45] = b :: r := by unfold Lib.trimPrefix; rw [e3]; rfl
      have es : (⟨(b :: r).toArray⟩ : ByteArray) = s := by
        obtain ⟨⟨l⟩⟩ := s
        simp only at hl
        subst hl
        rfl
      rw [c1, if_neg (show ¬ (false = true) by decide), e2, e3, es]
      exact core (by omega) false 1 rfl (by omega) (by omega)
end Go.Proofs.YtkfibjmjamdigaaDoor.Q


namespace Go.Proofs.YtkfibjmjamdigaaDoor.Q
set_option linter.unusedVariables false
open Go.RowKit Go.Proofs.YtkfibjmjamdigaaDoorW.PrintWords Go.Proofs.YtkfibjmjamdigaaDoorW.PrintLast Go.Proofs.YtkfibjmjamdigaaDoorW.PrintMore
theorem pure_FractionParses (s : ByteArray) : ∃ k, assessorlaw46_FractionParses.f k s = some true := by
  refine ⟨4611686018427389000, ?_⟩
  generalize hK : (4611686018427389000 : Nat) = k
  have hk : 4611686018427388900 < k := by omega
  clear hK
  rw [assessorlaw46_FractionParses.f, awake_true (by omega), Option.bind_some, if_pos rfl]
  by_cases hl : (s.size : Int) > 60
  · rw [if_pos hl]
  · obtain ⟨⟨r1, r2, r3⟩, e1, e2⟩ := parse_same s (by omega) (k := k) (by omega)
    rw [if_neg hl, e1, Option.bind_some, e2, Option.bind_some]
    simp only [beq_self_eq_true, Bool.and_self, if_true]
end Go.Proofs.YtkfibjmjamdigaaDoor.Q

/- Whatever the input: FractionParses returns true, and the input reads afterwards as it read before (the row lists seven variables of the library; the card ties them to the program's text). No further condition. -/

namespace Go.Proofs.YtkfibjmjamdigaaDoor.fractionParses
open Go.ChangeShapes Go.WideShapes Go.ChangeAt Go.RowKit Go.Proofs.YtkfibjmjamdigaaDoor.Q
open Go.ChangeMaps (open_string shut_string)
open Go.Joins (open_agg2)
set_option linter.unusedVariables false
set_option maxRecDepth 100000 in
theorem contract (H : Type) (enc : TypeId × Value → H) (W : World) (base : Nat) (args : Array Value) (ds gs : List (DataW H)) (before : List MemPlace)
    (hval : ∀ (j : Nat) t v, Tryd.f8.params[j]? = some t → args[j]? = some v → Value.okWide Tryd.prog W .any base t v)
    (hW : DataW.Whole enc Tryd.prog Tryd.f8.params.toList Rows.fractionParsesSpec.vars false W args.toList ds gs before) (hL : laidMetH Tryd.prog Rows.fractionParsesRow.laid W) :
    Calls Tryd.prog 8 args W fun e W' => ∃ v, e = .returned v ∧ Rows.fractionParsesSpec.post enc Tryd.prog Tryd.f8 false true false false W args v W' := by
  have hW' := hW
  obtain ⟨p, q, hA0, hV, rfl, hfz, hnd⟩ := hW
  have hA : DataW.TrodAll enc Tryd.prog W 0 (fun _ => true) true Tryd.f8.params.toList args.toList ds p := hA0
  rw [Tryd.params8] at hA hval
  obtain ⟨v0, vs0, d0, ds0, p0, q0, hargs, rfl, rfl, h0, r0⟩ := trodAll_cons hA
  obtain ⟨rfl, rfl, rfl⟩ := trodAll_nil r0
  obtain rfl : args = #[v0] := by cases args; simp_all
  obtain ⟨rfl, rfl⟩ := trodVars_none hV
  have k0 := h0
  have lt0 : ∀ x ∈ p0, x.block < W.heap.size := by obtain ⟨m, hm⟩ := k0; exact DataW.trod_lt m _ _ _ hm
  obtain ⟨a0, rfl, _, _, wa0⟩ := open_string Tryd.underlying9 (hval 0 9 v0 rfl rfl) h0
  obtain ⟨k, hk⟩ := pure_FractionParses a0
  refine (assessorlaw46_FractionParses.calls k a0 true W ⟨rfl⟩ (tab_of_laid7 hL) hk).mono fun e W' ⟨he, bel⟩ => ?_
  subst he
  exact ⟨_, rfl, _, _, _, [], _, [], hW', trodAll_mk1 (shut_bool Tryd.underlying4 _), (trodAll_cons_mk (Below.trod laidOut (by kernel_rfl) (of_decide_eq_true (by kernel_rfl)) k0 bel lt0) trodAll_mk0), rfl, bel.frame _, fun h => by cases h⟩
theorem reads (os : Os) {H : Type} (enc : TypeId × Value → H) : ∃ places, DataW.whole enc Tryd.prog ((laidWorld7 os).forCall (fun _ _ => 0) ⟨#[], #[Value.string ByteArray.empty], []⟩).memory Tryd.f8.params.toList Rows.fractionParsesSpec.vars false (#[Value.string ByteArray.empty] : Array Value).toList 8 = some ([DataW.lit (.string [])], [], places) :=
  ⟨[], by kernel_rfl⟩
set_option maxRecDepth 100000 in
theorem lifted (os : Os) (started : os.Started) (H : Type) (enc : TypeId × Value → H) (F : Stop.Interp) :
    ReturnsInHanded {} Tryd.checked os 8 .any ((OpenSpec.ofChange Rows.fractionParsesSpec).preRow enc Tryd.prog Tryd.f8 Rows.fractionParsesRow.domain false Rows.fractionParsesRow.laid) (((OpenSpec.ofChange Rows.fractionParsesSpec).at F).post enc Tryd.prog Tryd.f8 false true false false) := by
  obtain ⟨places, hx⟩ := reads os enc
  refine returnsInHanded_of_row (C := Tryd.checked) (s := OpenSpec.ofChange Rows.fractionParsesSpec) own started (by kernel_rfl) Tryd.func8
    (witness_row_at (enc := enc) (C := Tryd.checked) false (laidWorld7 os) #[Value.string ByteArray.empty] rfl (by kernel_rfl) (by kernel_rfl) (by kernel_rfl)
      (OpenSpec.preRow_of_cond 8 hx (by kernel_rfl) (fun k hk => by cases hk) (by kernel_rfl) (laid_met7 os _))) ?_
  intro W base args ds gs before hval hW _ _ _ hL _ _
  exact contract H enc W base args ds gs before hval hW hL
theorem said : Rows.FractionParsesSaid :=
  OpenClaim.holds_of_cond 8 Tryd.f8 rfl rfl rfl rfl rfl rfl rfl ⟨rfl, rfl, rfl, rfl, rfl⟩ rfl rfl rfl rfl rfl (by kernel_rfl) Tryd.func8 (by kernel_rfl)
    (of_decide_eq_true (by kernel_rfl)) (by unfold Func.isWrapper; first | (rw [if_pos (by decide +kernel)]; kernel_rfl) | (rw [if_neg (by decide +kernel)]; exact ⟨rfl, rfl⟩))
    (fun os started H enc _ F => by rw [OpenClaim.pre_eq_preRow]; exact lifted os started H enc F)
theorem plain (f : FuncId) (fn : Func) (hf : Tryd.pinned.checked.prog.funcNamed "assessor/assessorlaw46.FractionParses" = some f) (hfn : Tryd.pinned.checked.prog.funcs[f]? = some fn) :
    true = Tryd.pinned.checked.prog.looks [] ∧ ∀ (j : Nat) t, fn.params[j]? = some t → Tryd.pinned.checked.prog.wantsStandIn t = false := by
  obtain rfl : f = 8 := Option.some.inj ((show Tryd.prog.funcNamed "assessor/assessorlaw46.FractionParses" = some 8 by kernel_rfl).symm.trans hf) |>.symm
  obtain rfl : fn = Tryd.f8 := (Option.some.inj (Tryd.func8.symm.trans hfn)).symm
  refine ⟨by kernel_rfl, fun j t ht => ?_⟩
  rw [Tryd.params8] at ht
  have hm : t ∈ [9] := by have h := Array.mem_of_getElem? ht; simp at h ⊢; first | omega | grind
  have hall : ([9].all fun u => !Tryd.prog.wantsStandIn u) = true := by kernel_rfl
  exact (show Tryd.prog.wantsStandIn t = false by simpa using List.all_eq_true.1 hall t hm)
theorem card : Rows.FractionParsesCardSaid :=
  Claim7.holds_tied_plain_at .later [] _ _ _ _ said (fun _ h => by cases h) (by kernel_rfl) (fun _ h => by cases h) fractionParses_row_tie rfl ⟨rfl, rfl⟩ (by kernel_rfl) rfl plain (by kernel_rfl)
end Go.Proofs.YtkfibjmjamdigaaDoor.fractionParses
namespace Go.Proofs.YtkfibjmjamdigaaDoor

theorem fractionParses_card_holds : Rows.FractionParsesCardSaid := fractionParses.card
#print axioms fractionParses_card_holds
end Go.Proofs.YtkfibjmjamdigaaDoor

