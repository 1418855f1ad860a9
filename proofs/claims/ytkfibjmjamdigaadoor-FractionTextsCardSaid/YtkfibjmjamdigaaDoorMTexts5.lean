/- Whatever the input: FractionTexts returns true, and the input reads afterwards as it read before (the row lists seven variables of the library; the card ties them to the program's text). No further condition. -/
import Derived.ShutString
import Derived.SizedLaws
import Derived.ChangeOld
import Derived.Below
import Derived.SevenTiedAt
import Derived.Test.YtkfibjmjamdigaaDoorMTexts0
import Derived.Test.YtkfibjmjamdigaaDoorMTexts2
import Derived.Test.YtkfibjmjamdigaaDoorMTexts4

namespace Go.Proofs.YtkfibjmjamdigaaDoor.Q
set_option linter.unusedVariables false
open Go.RowKit Go.Proofs.YtkfibjmjamdigaaDoorW.PrintWords Go.Proofs.YtkfibjmjamdigaaDoorW.PrintLast Go.Proofs.YtkfibjmjamdigaaDoorW.PrintMore
def OkD (l : List UInt8) (m : Nat) : Prop := l ≠ [] ∧ l.length ≤ m ∧ ∀ x, x ∈ l → dg x = true
theorem size_mk (l : List UInt8) : (⟨l.toArray⟩ : ByteArray).size = l.length := by rw [Lib.size_eq]
theorem digits_ok' {l : List UInt8} {m : Nat} (hm : m ≤ 18) (h : OkD l m) : fraction_digits.f ⟨l.toArray⟩ (m : Int) = some (pv 0 l, true) := by
  obtain ⟨h1, h2, h3⟩ := h
  have e := size_mk l
  have hl : l.length ≠ 0 := fun x => h1 (List.length_eq_zero_iff.1 x)
  exact digits_ok ⟨l.toArray⟩ m (by omega) (by omega) (by omega) h3
theorem digits_no' {l : List UInt8} {m : Nat} (hm : m ≤ 18) (h : ¬ OkD l m) : fraction_digits.f ⟨l.toArray⟩ (m : Int) = some (0, false) := by
  have e := size_mk l
  refine digits_no ⟨l.toArray⟩ m (by omega) (fun x => h ⟨?_, by omega, x.2.2⟩)
  rintro rfl
  exact x.1 rfl
theorem cutf {t : ByteArray} (c : UInt8) (ht : t.size ≤ 1000) : strings_Cut.f t ⟨#[c]⟩ = some (cut1 t c) := by
  show (if t.size ≤ 1000 then some (cut1 t c) else none) = _
  rw [if_pos ht]
theorem cut1_at {t : ByteArray} {c : UInt8} {A B : List UInt8} (h : t.data.toList = A ++ c :: B) (hA : c ∉ A) : cut1 t c = (⟨A.toArray⟩, ⟨B.toArray⟩, true) := by
  unfold cut1; rw [h, cut_at c A B hA]
theorem cut1_none {t : ByteArray} {c : UInt8} (h : c ∉ t.data.toList) : cut1 t c = (⟨t.data.toList.toArray⟩, ⟨[].toArray⟩, false) := by
  unfold cut1; rw [cut_none c _ h]
theorem parts_any : ∀ (d k : Nat) (a : Int) (is : Bool) (b : Int) (are : Bool) (den : Int) (len i : Nat), len = i + d → len ≤ 100 → d < k → ∃ x y, fraction_parts.l0 k a is b are den (len : Int) (i : Int) = some (x, y, is && are)
  | d, 0, _, _, _, _, _, _, _, _, _, hk => by omega
  | 0, k + 1, a, is, b, are, den, len, i, hl, h1, hk => by
    rw [fraction_parts.l0, if_neg (by omega)]
    cases is <;> exact ⟨_, _, rfl⟩
  | d + 1, k + 1, a, is, b, are, den, len, i, hl, h1, hk => by
    have ei : wrap64 ((i : Int) + 1) = ((i + 1 : Nat) : Int) := by rw [w64 (by omega) (by omega)]; omega
    rw [fraction_parts.l0, if_pos (by omega), ei]
    by_cases g : wrap64 (den * 10) > 1000000
    · rw [if_pos g]
      cases is <;> exact ⟨_, _, rfl⟩
    · rw [if_neg g]
      exact parts_any d k a is b are _ len (i + 1) (by omega) h1 (by omega)
theorem parts_den : ∀ (d k : Nat) (a b : Int) (j i : Nat) (p : Int), j = i + d → j ≤ 6 → d < k → p = ((10 ^ i : Nat) : Int) → fraction_parts.l0 k a true b true p (j : Int) (i : Int) = some (wrap64 (wrap64 (a * ((10 ^ j : Nat) : Int)) + b), ((10 ^ j : Nat) : Int), true)
  | d, 0, _, _, _, _, _, _, _, hk, _ => by omega
  | 0, k + 1, a, b, j, i, p, hj, hj6, hk, hp => by
    subst hp
    obtain rfl : j = i := by omega
    rw [fraction_parts.l0, if_neg (by omega)]
    rfl
  | d + 1, k + 1, a, b, j, i, p, hj, hj6, hk, hp => by
    have hq : 10 ^ (i + 1) ≤ 10 ^ 6 := Nat.pow_le_pow_right (by decide) (by omega)
    have e6 : (10 : Nat) ^ 6 = 1000000 := by decide
    have ep : wrap64 (p * 10) = ((10 ^ (i + 1) : Nat) : Int) := by
      rw [hp]
      rw [e6, Nat.pow_succ] at hq
      rw [Nat.pow_succ]
      clear hp
      generalize 10 ^ i = M at hq ⊢
      rw [w64 (by omega) (by omega)]; omega
    have ei : wrap64 ((i : Int) + 1) = ((i + 1 : Nat) : Int) := by rw [w64 (by omega) (by omega)]; omega
    have g : ¬ (((10 ^ (i + 1) : Nat) : Int) > 1000000) := by
      rw [e6] at hq
      generalize 10 ^ (i + 1) = M at hq ⊢
      omega
    rw [fraction_parts.l0, if_pos (by omega), ep, if_neg g, ei]
    exact parts_den d k a b j (i + 1) _ (by omega) hj6 (by omega) rfl
theorem parts_slash {t : ByteArray} {A B : List UInt8} {k : Nat} (ht : t.size ≤ 100) (h : t.data.toList = A ++ 47 :: B) (hA : (47 : UInt8) ∉ A) :
    (OkD A 10 ∧ OkD B 7 → fraction_parts.f k t = some (pv 0 A, pv 0 B, true)) ∧ (¬ (OkD A 10 ∧ OkD B 7) → ∃ x y, fraction_parts.f k t = some (x, y, false)) := by
  have e : fraction_parts.f k t = ((fraction_digits.f ⟨A.toArray⟩ 10).bind fun bt389 => ((fraction_digits.f ⟨B.toArray⟩ 7).bind fun bt391 => (if bt389.2 = true then (some (bt389.1, bt391.1, bt391.2)) else (some (bt389.1, bt391.1, false))))) := by
    rw [fraction_parts.f, cutf 47 (by omega), Option.bind_some, cut1_at h hA, if_pos rfl]
  rw [e]
  by_cases a : OkD A 10
  · have ea : fraction_digits.f ⟨A.toArray⟩ 10 = some (pv 0 A, true) := digits_ok' (m := 10) (by omega) a
    by_cases b : OkD B 7
    · have eb : fraction_digits.f ⟨B.toArray⟩ 7 = some (pv 0 B, true) := digits_ok' (m := 7) (by omega) b
      rw [ea, eb]
      exact ⟨fun _ => rfl, fun n => absurd ⟨a, b⟩ n⟩
    · have eb : fraction_digits.f ⟨B.toArray⟩ 7 = some (0, false) := digits_no' (m := 7) (by omega) b
      rw [ea, eb]
      exact ⟨fun n => absurd n.2 b, fun _ => ⟨_, _, rfl⟩⟩
  · have ea : fraction_digits.f ⟨A.toArray⟩ 10 = some (0, false) := digits_no' (m := 10) (by omega) a
    refine ⟨fun n => absurd n.1 a, fun _ => ?_⟩
    by_cases b : OkD B 7
    · have eb : fraction_digits.f ⟨B.toArray⟩ 7 = some (pv 0 B, true) := digits_ok' (m := 7) (by omega) b
      rw [ea, eb]; exact ⟨_, _, rfl⟩
    · have eb : fraction_digits.f ⟨B.toArray⟩ 7 = some (0, false) := digits_no' (m := 7) (by omega) b
      rw [ea, eb]; exact ⟨_, _, rfl⟩
theorem parts_dot {t : ByteArray} {A B : List UInt8} {k : Nat} (hk : 200 < k) (ht : t.size ≤ 100) (h7 : (47 : UInt8) ∉ t.data.toList) (h : t.data.toList = A ++ 46 :: B) (hA : (46 : UInt8) ∉ A) :
    (OkD A 10 ∧ OkD B 6 → fraction_parts.f k t = some (wrap64 (wrap64 (pv 0 A * ((10 ^ B.length : Nat) : Int)) + pv 0 B), ((10 ^ B.length : Nat) : Int), true)) ∧ (¬ (OkD A 10 ∧ OkD B 6) → ∃ x y, fraction_parts.f k t = some (x, y, false)) := by
  have hlen : B.length ≤ 100 := by
    have := Lib.size_eq t
    rw [h, List.length_append, List.length_cons] at this
    omega
  have e : fraction_parts.f k t = ((fraction_digits.f ⟨A.toArray⟩ 10).bind fun bt396 => ((fraction_digits.f ⟨B.toArray⟩ 6).bind fun bt398 => (fraction_parts.l0 k bt396.1 bt396.2 bt398.1 bt398.2 1 (B.length : Int) 0))) := by
    rw [fraction_parts.f, cutf 47 (by omega), Option.bind_some, cut1_none h7, if_neg (show ¬ (false = true) by decide), cutf 46 (by omega), Option.bind_some, cut1_at h hA]
    show ((fraction_digits.f ⟨A.toArray⟩ 10).bind fun bt396 => (if true = true then _ else _)) = _
    congr 1
  rw [e]
  by_cases a : OkD A 10
  · have ea : fraction_digits.f ⟨A.toArray⟩ 10 = some (pv 0 A, true) := digits_ok' (m := 10) (by omega) a
    by_cases b : OkD B 6
    · have eb : fraction_digits.f ⟨B.toArray⟩ 6 = some (pv 0 B, true) := digits_ok' (m := 6) (by omega) b
      rw [ea, eb]
      refine ⟨fun _ => ?_, fun n => absurd ⟨a, b⟩ n⟩
      exact parts_den B.length k _ _ B.length 0 1 (by omega) b.2.1 (by omega) rfl
    · have eb : fraction_digits.f ⟨B.toArray⟩ 6 = some (0, false) := digits_no' (m := 6) (by omega) b
      rw [ea, eb]
      refine ⟨fun n => absurd n.2 b, fun _ => ?_⟩
      exact parts_any B.length k _ _ _ _ _ B.length 0 (by omega) hlen (by omega)
  · have ea : fraction_digits.f ⟨A.toArray⟩ 10 = some (0, false) := digits_no' (m := 10) (by omega) a
    refine ⟨fun n => absurd n.1 a, fun _ => ?_⟩
    by_cases b : OkD B 6
    · have eb : fraction_digits.f ⟨B.toArray⟩ 6 = some (pv 0 B, true) := digits_ok' (m := 6) (by omega) b
      rw [ea, eb]; exact parts_any B.length k _ _ _ _ _ B.length 0 (by omega) hlen (by omega)
    · have eb : fraction_digits.f ⟨B.toArray⟩ 6 = some (0, false) := digits_no' (m := 6) (by omega) b
      rw [ea, eb]; exact parts_any B.length k _ _ _ _ _ B.length 0 (by omega) hlen (by omega)
theorem parts_plain {t : ByteArray} {k : Nat} (ht : t.size ≤ 100) (h7 : (47 : UInt8) ∉ t.data.toList) (h6 : (46 : UInt8) ∉ t.data.toList) :
    (OkD t.data.toList 10 → fraction_parts.f k t = some (pv 0 t.data.toList, 1, true)) ∧ (¬ OkD t.data.toList 10 → fraction_parts.f k t = some (0, 1, false)) := by
  have e : fraction_parts.f k t = ((fraction_digits.f ⟨t.data.toList.toArray⟩ 10).bind fun bt396 => some (bt396.1, 1, bt396.2)) := by
    rw [fraction_parts.f, cutf 47 (by omega), Option.bind_some, cut1_none h7, if_neg (show ¬ (false = true) by decide), cutf 46 (by omega), Option.bind_some, cut1_none h6]
    show ((fraction_digits.f ⟨t.data.toList.toArray⟩ 10).bind fun bt396 => (if false = true then _ else _)) = _
    congr 1
  rw [e]
  by_cases a : OkD t.data.toList 10
  · have ea : fraction_digits.f ⟨t.data.toList.toArray⟩ 10 = some (pv 0 t.data.toList, true) := digits_ok' (m := 10) (by omega) a
    rw [ea]; exact ⟨fun _ => rfl, fun n => absurd a n⟩
  · have ea : fraction_digits.f ⟨t.data.toList.toArray⟩ 10 = some (0, false) := digits_no' (m := 10) (by omega) a
    rw [ea]; exact ⟨fun n => absurd n a, fun _ => rfl⟩

theorem not_dg_mem {l : List UInt8} {c : UInt8} (hc : dg c = false) (h : ∀ x, x ∈ l → dg x = true) : c ∉ l := fun x => by
  have := h c x
  rw [hc] at this; cases this
def after (k : Nat) (neg : Bool) (x : Int × Int × Bool) : Option (Int × Int × Int) := if x.2.2 = true then (if x.2.1 = 0 then (some (0, 0, 2)) else (if neg = true then ((fraction_reduced.f k (wrap64 (-x.1)) x.2.1).bind fun bt406 => (some (bt406.1, bt406.2.1, bt406.2.2))) else ((fraction_reduced.f k x.1 x.2.1).bind fun bt409 => (some (bt409.1, bt409.2.1, bt409.2.2))))) else (some (0, 0, 3))
end Go.Proofs.YtkfibjmjamdigaaDoor.Q


namespace Go.Proofs.YtkfibjmjamdigaaDoor.Q
set_option linter.unusedVariables false
open Go.RowKit Go.Proofs.YtkfibjmjamdigaaDoorW.PrintWords Go.Proofs.YtkfibjmjamdigaaDoorW.PrintLast Go.Proofs.YtkfibjmjamdigaaDoorW.PrintMore
theorem D_ne (u : Nat) : 1 ≤ (D u).length := by
  by_cases h : u < 10
  · rw [D_small h]; simp
  · rw [D_big h]; simp
def pad (i F : Nat) : List UInt8 := (D (10 ^ i + F)).drop 1
theorem pad_zero : pad 0 0 = [] := by simp [pad, D_small]
theorem pad_low (i F : Nat) (h : F < 10 ^ (i + 1)) : pad (i + 1) F = pad i (F / 10) ++ [UInt8.ofNat (48 + F % 10)] := by
  unfold pad
  have hp : 10 ^ (i + 1) = 10 * 10 ^ i := by rw [Nat.pow_succ, Nat.mul_comm]
  have h1 : 1 ≤ 10 ^ i := Nat.one_le_pow _ _ (by omega)
  rw [hp] at h ⊢
  generalize 10 ^ i = P at *
  rw [D_big (u := 10 * P + F) (by omega), show (10 * P + F) / 10 = P + F / 10 by omega, show (10 * P + F) % 10 = F % 10 by omega]
  rw [List.drop_append_of_le_length (D_ne _)]
theorem natdiv (x d : Nat) (hx : x ≤ 4611686018427387904) : wrap64 (Int.tdiv (x : Int) (d : Int)) = ((x / d : Nat) : Int) := by
  have e : Int.tdiv (x : Int) (d : Int) = ((x / d : Nat) : Int) := by rw [Int.tdiv_eq_ediv_of_nonneg (by omega)]; simp
  have h := Nat.div_le_self x d
  rw [e]
  generalize x / d = q at *
  exact w64 (by omega) (by omega)
theorem natmod (x d : Nat) : Int.tmod (x : Int) (d : Int) = ((x % d : Nat) : Int) := by rw [Int.tmod_eq_emod_of_nonneg (by omega)]; simp
theorem sgn_nat (u : Nat) : sgn (u : Int) = [] := by unfold sgn; rw [if_neg (by omega)]
theorem e45 : (⟨#[45]⟩ : ByteArray) = B [45] := rfl
theorem e46 : (⟨#[46]⟩ : ByteArray) = B [46] := rfl
theorem e47 : (⟨#[47]⟩ : ByteArray) = B [47] := rfl
theorem e00 : (⟨#[]⟩ : ByteArray) = B [] := rfl
theorem point_j0 {k : Nat} (n : Int) (p : Nat) (s : List UInt8) (hs : s.length ≤ 1) (h1 : -4611686018427387904 ≤ n) (h2 : n ≤ 4611686018427387904) (hp : 1 ≤ p) (hp2 : p ≤ 1000000) :
    fraction_point.j0 (k + 1) n (p : Int) (B s) = some (B (s ++ D (n.natAbs / p) ++ [46] ++ (D (p + n.natAbs % p)).drop 1)) := by
  have hp0 : ¬ ((p : Int) = 0) := by omega
  have q1 := Nat.mod_lt n.natAbs (show p > 0 by omega)
  have q2 := Nat.div_le_self n.natAbs p
  have ea : fraction_abs.f n = some ((n.natAbs : Nat) : Int) := abs_f (by omega) (by omega)
  have ed := natdiv n.natAbs p (by omega)
  have em := natmod n.natAbs p
  generalize n.natAbs % p = r at *
  generalize n.natAbs / p = q at *
  have l1 := D_len (p + r) (by omega)
  have l2 := D_len q (by omega)
  have n1 := D_ne (p + r)
  have hz : 1 ≤ ((B (D (p + r))).size : Int) := by rw [B_size]; omega
  have i1 : strconv_Itoa.f ((p + r : Nat) : Int) = some (B (D (p + r))) := by
    have := itoa_f (n := ((p + r : Nat) : Int)) (by omega) (by omega)
    rwa [sgn_nat, Int.natAbs_natCast, List.nil_append] at this
  have i2 : strconv_Itoa.f (q : Int) = some (B (D q)) := by
    have := itoa_f (n := (q : Int)) (by omega) (by omega)
    rwa [sgn_nat, Int.natAbs_natCast, List.nil_append] at this
  have es : wrap64 ((p : Int) + (r : Int)) = ((p + r : Nat) : Int) := by
    rw [w64 (by omega) (by omega)]; omega
  rw [fraction_point.j0, ea, Option.bind_some, if_neg hp0, em, es, i1, Option.bind_some, if_pos hz, Option.bind_some, ed, i2, Option.bind_some, B_drop]
  clear ea ed em es i1 i2
  rw [e46, B_app, B_app, B_app]
  rw [B_size, B_size, B_size, B_size, B_size]
  rw [if_pos (by omega), if_pos (by rw [List.length_append]; omega), if_pos (by rw [List.length_append, List.length_append, List.length_drop]; simp only [List.length_cons, List.length_nil]; omega)]
theorem point_f {k : Nat} (hk : 0 < k) (n : Int) (p : Nat) (h1 : -4611686018427387904 ≤ n) (h2 : n ≤ 4611686018427387904) (hp : 1 ≤ p) (hp2 : p ≤ 1000000) :
    fraction_point.f k n (p : Int) = some (B (sgn n ++ D (n.natAbs / p) ++ [46] ++ (D (p + n.natAbs % p)).drop 1)) := by
  obtain ⟨k, rfl⟩ : ∃ m, k = m + 1 := ⟨k - 1, by omega⟩
  rw [fraction_point.f, sgn, e45, e00]
  by_cases h : n < 0
  · rw [if_pos h, if_pos h]
    exact point_j0 n p [45] (by simp) h1 h2 hp hp2
  · rw [if_neg h, if_neg h]
    exact point_j0 n p [] (by simp) h1 h2 hp hp2
def Fmt (a b : Int) : List UInt8 := if b = 1 then sgn a ++ D a.natAbs else sgn a ++ D a.natAbs ++ [47] ++ D b.natAbs
theorem sgn_len (n : Int) : (sgn n).length ≤ 1 := by unfold sgn; split <;> simp
theorem format_f {k : Nat} (hk : 1000002 < k) (a b : Int) : fraction_Format.f k a b = some (B (if V a b then Fmt a b else [])) := by
  unfold fraction_Format.f
  rw [valid_f (by omega)]
  simp only [Option.bind_some, decide_eq_true_eq]
  by_cases h : V a b
  · rw [if_pos h, if_pos h]
    obtain ⟨h1, h2, h3, h4, _⟩ := h
    obtain ⟨v, rfl⟩ : ∃ v : Nat, b = v := ⟨b.natAbs, by omega⟩
    have l1 := D_len a.natAbs (by omega)
    have l2 := D_len v (by omega)
    have l3 := sgn_len a
    rw [itoa_f (by omega) (by omega), itoa_f (by omega) (by omega)]
    simp only [sgn_nat, Int.natAbs_natCast, List.nil_append, Option.bind_some, Fmt]
    by_cases h5 : (v : Int) = 1
    · rw [if_pos h5, if_pos h5]
    · rw [if_neg h5, if_neg h5]
      rw [e47]
      rw [B_app, B_app]
      simp only [B_size, List.length_append, List.length_cons, List.length_nil]
      rw [if_pos (by omega), if_pos (by omega)]
  · rw [if_neg h, if_neg h, e00]
def Pts (n : Int) : List UInt8 := sgn n ++ D (n.natAbs / 100) ++ [46] ++ D (n.natAbs / 10 % 10) ++ D (n.natAbs % 10)
end Go.Proofs.YtkfibjmjamdigaaDoor.Q


namespace Go.Proofs.YtkfibjmjamdigaaDoor.Q
set_option linter.unusedVariables false
open Go.RowKit Go.Proofs.YtkfibjmjamdigaaDoorW.PrintWords Go.Proofs.YtkfibjmjamdigaaDoorW.PrintLast Go.Proofs.YtkfibjmjamdigaaDoorW.PrintMore
def Least (den j : Nat) : Prop := den ∣ 10 ^ j ∧ ∀ i, i < j → ¬ den ∣ 10 ^ i

def Dtx (a : Int) (den j : Nat) : List UInt8 := if j = 0 then sgn a ++ D a.natAbs else sgn a ++ D (a.natAbs / den) ++ [46] ++ pad j (a.natAbs % den * 10 ^ j / den)
theorem least_exists (den : Nat) (h : den ∣ 10 ^ 6) : ∃ j, j ≤ 6 ∧ Least den j := by
  have main : ∀ n, den ∣ 10 ^ n → ∃ j, j ≤ n ∧ Least den j := by
    intro n
    induction n with
    | zero => intro h; exact ⟨0, Nat.le_refl _, h, fun i hi => absurd hi (by omega)⟩
    | succ n ih =>
      intro h
      by_cases h2 : ∃ i, i < n + 1 ∧ den ∣ 10 ^ i
      · obtain ⟨i, hi, hd⟩ := h2
        have : den ∣ 10 ^ n := Nat.dvd_trans hd (Nat.pow_dvd_pow 10 (by omega))
        obtain ⟨j, hj, hl⟩ := ih this
        exact ⟨j, by omega, hl⟩
      · exact ⟨n + 1, Nat.le_refl _, h, fun i hi hd => h2 ⟨i, hi, hd⟩⟩
  exact main 6 h
theorem pow_le6 {i : Nat} (h : i ≤ 6) : 10 ^ i ≤ 1000000 := by
  rw [show 1000000 = 10 ^ 6 from rfl]; exact Nat.pow_le_pow_right (by omega) h
theorem sgn_mul (a : Int) (c : Nat) (h : 1 ≤ c) : sgn (a * (c : Int)) = sgn a := by
  unfold sgn
  by_cases h0 : a < 0
  · have : a * (c : Int) < 0 := Int.mul_neg_of_neg_of_pos h0 (by omega)
    rw [if_pos h0, if_pos this]
  · have : ¬ a * (c : Int) < 0 := by
      have := Int.mul_nonneg (a := a) (b := (c : Int)) (by omega) (by omega)
      omega
    rw [if_neg h0, if_neg this]

theorem dec_no {a : Int} {den : Nat} (hd : 1 ≤ den) (hno : ∀ i, i ≤ 6 → ¬ den ∣ 10 ^ i) : ∀ (n i k : Nat), i + n = 7 → n < k → fraction_Decimal.l0 k ((10 ^ i : Nat) : Int) a (den : Int) = some (B [], false) := by
  intro n
  induction n with
  | zero =>
    intro i k hi hk
    obtain ⟨k, rfl⟩ : ∃ m, k = m + 1 := ⟨k - 1, by omega⟩
    obtain rfl : i = 7 := by omega
    have : ¬ (((10 ^ 7 : Nat) : Int) ≤ 1000000) := by decide
    rw [fraction_Decimal.l0, if_neg this, e00]
  | succ n ih =>
    intro i k hi hk
    obtain ⟨k, rfl⟩ : ∃ m, k = m + 1 := ⟨k - 1, by omega⟩
    have hp := pow_le6 (i := i) (by omega)
    have h1 : ((10 ^ i : Nat) : Int) ≤ 1000000 := by omega
    have hd0 : ¬ ((den : Nat) : Int) = 0 := by omega
    have hm : ¬ ((10 ^ i % den : Nat) : Int) = 0 := by
      intro e
      exact hno i (by omega) (Nat.dvd_of_mod_eq_zero (by omega))
    have := ih (i + 1) k (by omega) (by omega)
    have w : wrap64 (((10 ^ i : Nat) : Int) * 10) = ((10 ^ (i + 1) : Nat) : Int) := by
      rw [Nat.pow_succ]
      clear hm h1 this
      generalize 10 ^ i = P at *
      rw [w64 (by omega) (by omega)]
      omega
    rw [fraction_Decimal.l0, if_pos h1, if_neg hd0, natmod, if_neg hm, w, this]

theorem dec_yes {a : Int} {den j : Nat} (hv : V a den) (hj6 : j ≤ 6) (hj : Least den j) : ∀ (n i k : Nat), i + n = j → n + 2 < k → fraction_Decimal.l0 k ((10 ^ i : Nat) : Int) a (den : Int) = some (B (Dtx a den j), true) := by
  have hv' := hv
  obtain ⟨v1, v2, v3, v4, v5⟩ := hv
  intro n
  induction n with
  | zero =>
    intro i k hi hk
    obtain ⟨k, rfl⟩ : ∃ m, k = m + 1 := ⟨k - 1, by omega⟩
    obtain rfl : i = j := by omega
    have hp := pow_le6 hj6
    have h1 : ((10 ^ i : Nat) : Int) ≤ 1000000 := by omega
    have hd0 : ¬ ((den : Nat) : Int) = 0 := by omega
    have hm : ((10 ^ i % den : Nat) : Int) = 0 := by rw [Nat.mod_eq_zero_of_dvd hj.1]; rfl
    rw [fraction_Decimal.l0, if_pos h1, if_neg hd0, natmod, if_pos hm]
    by_cases h0 : i = 0
    · subst h0
      have ho : ((10 ^ 0 : Nat) : Int) = 1 := rfl
      have it := itoa_f (n := a) (by omega) (by omega)
      rw [if_pos ho, it, Option.bind_some, Dtx, if_pos rfl]
    · have h10 : 10 ≤ 10 ^ i := by
        have := Nat.pow_le_pow_right (n := 10) (by omega) (show 1 ≤ i by omega)
        omega
      have ho : ¬ ((10 ^ i : Nat) : Int) = 1 := by omega
      obtain ⟨c, hc⟩ := hj.1
      have hc1 : 1 ≤ c := by
        rcases Nat.eq_zero_or_pos c with h | h
        · subst h; rw [Nat.mul_zero] at hc; omega
        · exact h
      have hcle : c ≤ 1000000 := by
        have := Nat.le_mul_of_pos_left c (show 0 < den by omega)
        omega
      have e1 : 10 ^ i / den = c := by rw [hc]; exact Nat.mul_div_cancel_left c (by omega)
      have pb := prod_bound (x := a) (y := (c : Int)) (X := 1000000000) (Y := 1000000) (by omega) (by omega) (by omega) (by omega)
      have pf := point_f (k := k) (by omega) (a * (c : Int)) (10 ^ i) (by omega) (by omega) (by omega) (by omega)
      have na : (a * (c : Int)).natAbs = a.natAbs * c := by rw [Int.natAbs_mul, Int.natAbs_natCast]
      rw [na, sgn_mul a c hc1] at pf
      have q1 : a.natAbs * c / 10 ^ i = a.natAbs / den := by rw [hc, Nat.mul_div_mul_right _ _ (by omega)]
      have q2 : a.natAbs * c % 10 ^ i = a.natAbs % den * c := by rw [hc, Nat.mul_mod_mul_right]
      have q3 : a.natAbs % den * 10 ^ i / den = a.natAbs % den * c := by
        rw [hc, show a.natAbs % den * (den * c) = den * (a.natAbs % den * c) by grind, Nat.mul_div_cancel_left _ (by omega)]
      have nd : wrap64 (Int.tdiv ((10 ^ i : Nat) : Int) (den : Int)) = (c : Int) := by rw [natdiv _ _ (by omega), e1]
      have w : wrap64 (a * (c : Int)) = a * (c : Int) := by clear nd pf; exact w64 (by omega) (by omega)
      rw [if_neg ho, nd, w, pf, Option.bind_some, q1, q2, Dtx, if_neg h0, q3]
      rfl
  | succ n ih =>
    intro i k hi hk
    obtain ⟨k, rfl⟩ : ∃ m, k = m + 1 := ⟨k - 1, by omega⟩
    have hp := pow_le6 (i := i) (by omega)
    have h1 : ((10 ^ i : Nat) : Int) ≤ 1000000 := by omega
    have hd0 : ¬ ((den : Nat) : Int) = 0 := by omega
    have hm : ¬ ((10 ^ i % den : Nat) : Int) = 0 := by
      intro e
      exact hj.2 i (by omega) (Nat.dvd_of_mod_eq_zero (by omega))
    have := ih (i + 1) k (by omega) (by omega)
    have w : wrap64 (((10 ^ i : Nat) : Int) * 10) = ((10 ^ (i + 1) : Nat) : Int) := by
      rw [Nat.pow_succ]
      clear hm h1 this
      generalize 10 ^ i = P at *
      rw [w64 (by omega) (by omega)]
      omega
    rw [fraction_Decimal.l0, if_pos h1, if_neg hd0, natmod, if_neg hm, w, this]
theorem decimal_no {k : Nat} (hk : 1000000010 < k) {a d : Int} (h : ¬ (V a d ∧ d.natAbs ∣ 1000000)) : fraction_Decimal.f k a d = some (B [], false) := by
  have rv := valid_f (k := k) (by omega) a d
  by_cases hv : V a d
  · rw [decide_eq_true hv] at rv
    have h1 := hv.1
    obtain ⟨den, rfl⟩ : ∃ v : Nat, d = v := ⟨d.natAbs, by clear rv; omega⟩
    have hno : ∀ i, i ≤ 6 → ¬ den ∣ 10 ^ i := by
      intro i hi hd
      refine h ⟨hv, ?_⟩
      rw [Int.natAbs_natCast, show 1000000 = 10 ^ 6 from rfl]
      exact Nat.dvd_trans hd (Nat.pow_dvd_pow 10 hi)
    have := dec_no (a := a) (by omega) hno 7 0 k (by omega) (by omega)
    rw [fraction_Decimal.f, rv, Option.bind_some, if_pos rfl]
    exact this
  · rw [decide_eq_false hv] at rv
    rw [fraction_Decimal.f, rv, Option.bind_some, if_neg (by decide), e00]
theorem decimal_f {k : Nat} (hk : 1000000010 < k) {a : Int} {den j : Nat} (hv : V a den) (hj6 : j ≤ 6) (hj : Least den j) : fraction_Decimal.f k a den = some (B (Dtx a den j), true) := by
  have rv := valid_f (k := k) (by omega) a (den : Int)
  rw [decide_eq_true hv] at rv
  have := dec_yes hv hj6 hj j 0 k (by omega) (by omega)
  rw [fraction_Decimal.f, rv, Option.bind_some, if_pos rfl]
  exact this

end Go.Proofs.YtkfibjmjamdigaaDoor.Q


namespace Go.Proofs.YtkfibjmjamdigaaDoor.Q
set_option linter.unusedVariables false
open Go.RowKit Go.Proofs.YtkfibjmjamdigaaDoorW.PrintWords Go.Proofs.YtkfibjmjamdigaaDoorW.PrintLast Go.Proofs.YtkfibjmjamdigaaDoorW.PrintMore
theorem pv_snoc : ∀ (l : List UInt8) (acc : Int) (b : UInt8), pv acc (l ++ [b]) = 10 * pv acc l + ((b.toNat : Int) - 48)
  | [], _, _ => rfl
  | c :: l, acc, b => by rw [List.cons_append, pv, pv, pv_snoc l]
theorem digit_nat (d : Nat) (h : d < 10) : (UInt8.ofNat (48 + d)).toNat = 48 + d := by
  rw [UInt8.toNat_ofNat']; omega
theorem digit_dg (d : Nat) (h : d < 10) : dg (UInt8.ofNat (48 + d)) = true := by
  unfold dg
  rw [digit_nat d h]
  exact decide_eq_true (by omega)
theorem D_read (u : Nat) : (∀ x, x ∈ D u → dg x = true) ∧ pv 0 (D u) = (u : Int) := by
  induction u using Nat.strongRecOn with
  | _ u ih =>
    by_cases h : u < 10
    · rw [D_small h]
      refine ⟨fun x hx => ?_, ?_⟩
      · rw [List.mem_singleton] at hx; subst hx; exact digit_dg u h
      · show (10 * 0 + (((UInt8.ofNat (48 + u)).toNat : Int) - 48)) = (u : Int)
        rw [digit_nat u h]; omega
    · obtain ⟨i1, i2⟩ := ih (u / 10) (by omega)
      have hm := Nat.mod_lt u (show 10 > 0 by omega)
      rw [D_big h]
      refine ⟨fun x hx => ?_, ?_⟩
      · rcases List.mem_append.1 hx with hx | hx
        · exact i1 x hx
        · rw [List.mem_singleton] at hx; subst hx; exact digit_dg _ hm
      · rw [pv_snoc, i2, digit_nat _ hm]; omega
theorem D_short : ∀ (n u : Nat), u < 10 ^ (n + 1) → (D u).length ≤ n + 1
  | 0, u, h => by rw [D_small (by simpa using h)]; simp
  | n + 1, u, h => by
    by_cases g : u < 10
    · rw [D_small g]; simp
    · rw [D_big g, List.length_append, List.length_singleton]
      have := D_short n (u / 10) (by rw [Nat.pow_succ] at h; omega)
      omega
theorem pad_read : ∀ (j F : Nat), F < 10 ^ j → (pad j F).length = j ∧ (∀ x, x ∈ pad j F → dg x = true) ∧ pv 0 (pad j F) = (F : Int)
  | 0, F, h => by
    obtain rfl : F = 0 := by simpa using h
    rw [pad_zero]
    exact ⟨rfl, fun x hx => (by cases hx), rfl⟩
  | j + 1, F, h => by
    have hm := Nat.mod_lt F (show 10 > 0 by omega)
    obtain ⟨i1, i2, i3⟩ := pad_read j (F / 10) (by rw [Nat.pow_succ] at h; omega)
    rw [pad_low j F h]
    refine ⟨by rw [List.length_append, i1]; rfl, fun x hx => ?_, ?_⟩
    · rcases List.mem_append.1 hx with hx | hx
      · exact i2 x hx
      · rw [List.mem_singleton] at hx; subst hx; exact digit_dg _ hm
    · rw [pv_snoc, i3, digit_nat _ hm]; omega
end Go.Proofs.YtkfibjmjamdigaaDoor.Q


namespace Go.Proofs.YtkfibjmjamdigaaDoor.Q
set_option linter.unusedVariables false
open Go.RowKit Go.Proofs.YtkfibjmjamdigaaDoorW.PrintWords Go.Proofs.YtkfibjmjamdigaaDoorW.PrintLast Go.Proofs.YtkfibjmjamdigaaDoorW.PrintMore
theorem after_val {a b num den : Int} {k : Nat} (hv : V a b) (h : num * b = (a.natAbs : Int) * den) (h0 : 0 ≤ num) (h1 : num ≤ 100000000000000000) (d1 : 1 ≤ den) (d2 : den ≤ 100000000) (hk : 4611686018427387910 ≤ k) : after k (decide (a < 0)) (num, den, true) = some (a, b, 0) := by
  have hz : ¬ (den = 0) := by omega
  by_cases g : a < 0
  · have e1 : wrap64 (-num) = -num := w64 (by omega) (by omega)
    obtain ⟨r1, r2, r3, e, hr⟩ := reduced_red (k := k) (n := -num) (d := den) hz (by omega) (by omega) (by omega) (by omega) (by omega)
    have hR : Red (-num) den a b 0 := .inl ⟨rfl, hv, by
      have ea : a = -(a.natAbs : Int) := by omega
      rw [Int.neg_mul, h]
      generalize (a.natAbs : Int) = A at ea
      subst ea
      rw [Int.neg_mul]⟩
    obtain ⟨rfl, rfl, rfl⟩ := hr.unique hz hR
    simp only [after, decide_eq_true g, if_true, if_neg hz, e1, e, Option.bind_some]
  · obtain ⟨r1, r2, r3, e, hr⟩ := reduced_red (k := k) (n := num) (d := den) hz (by omega) (by omega) (by omega) (by omega) (by omega)
    have hR : Red num den a b 0 := .inl ⟨rfl, hv, by
      have ea : a = (a.natAbs : Int) := by omega
      rw [h, ← ea]⟩
    obtain ⟨rfl, rfl, rfl⟩ := hr.unique hz hR
    have gf : ¬ (decide (r1 < 0) = true) := by rw [decide_eq_false g]; decide
    simp only [after, if_true, if_neg hz, if_neg gf, e, Option.bind_some]
theorem parse_text {k : Nat} (a : Int) (c : UInt8) (l : List UInt8) (hc : dg c = true) : fraction_Parse.f k (B (sgn a ++ c :: l)) = (fraction_parts.f k (B (c :: l))).bind (after k (decide (a < 0))) := by
  have ep : fraction_Parse.f k (B (sgn a ++ c :: l)) = (fraction_parts.f k ⟨(Lib.trimPrefix (sgn a ++ c :: l) [45]).toArray⟩).bind (after k (Lib.hasPrefix (sgn a ++ c :: l) [45])) := rfl
  rw [ep]
  unfold sgn
  by_cases g : a < 0
  · rw [if_pos g, decide_eq_true g]
    have e2 : Lib.trimPrefix ([45] ++ c :: l) [45] = c :: l := by simp [Lib.trimPrefix, Lib.hasPrefix]
    have e3 : Lib.hasPrefix ([45] ++ c :: l) [45] = true := by simp [Lib.hasPrefix]
    rw [e2, e3]
    rfl
  · rw [if_neg g, decide_eq_false g]
    have cb : (45 == c) = false := by
      rw [beq_eq_false_iff_ne]; rintro rfl; exact absurd hc (by decide)
    have e3 : Lib.hasPrefix ([] ++ c :: l) [45] = false := by simp only [List.nil_append, Lib.hasPrefix, List.isPrefixOf, cb, Bool.false_and]
    have e2 : Lib.trimPrefix ([] ++ c :: l) [45] = c :: l := by unfold Lib.trimPrefix; rw [e3]; rfl
    rw [e2, e3]
    rfl
theorem D_cons (n : Nat) : ∃ c l, D n = c :: l ∧ dg c = true := by
  cases h : D n with
  | nil => have := D_ne n; rw [h] at this; exact absurd this (by decide)
  | cons c l => exact ⟨c, l, rfl, (D_read n).1 c (by rw [h]; simp)⟩
theorem D_ok {n m : Nat} (h : n < 10 ^ (m + 1)) : OkD (D n) (m + 1) := by
  refine ⟨fun x => ?_, D_short m n h, (D_read n).1⟩
  have := D_ne n
  rw [x] at this; exact absurd this (by decide)
theorem B_list (l : List UInt8) : (B l).data.toList = l := rfl
theorem B_len (l : List UInt8) : (B l).size = l.length := B_size l
theorem parse_int {a : Int} {k : Nat} (hv : V a 1) (hk : 4611686018427387910 ≤ k) : fraction_Parse.f k (B (sgn a ++ D a.natAbs)) = some (a, 1, 0) := by
  obtain ⟨c, l, e, hc⟩ := D_cons a.natAbs
  have n47 : dg 47 = false := by decide
  have n46 : dg 46 = false := by decide
  have hr := D_read a.natAbs
  obtain ⟨_, _, v3, v4, _⟩ := id hv
  have ho : OkD (D a.natAbs) 10 := D_ok (m := 9) (by have : (10 : Nat) ^ (9 + 1) = 10000000000 := by decide
                                                     omega)
  rw [e, parse_text a c l hc, ← e]
  have q := (parts_plain (t := B (D a.natAbs)) (k := k) (by rw [B_len]; have := ho.2.1; omega) (by rw [B_list]; exact not_dg_mem n47 hr.1) (by rw [B_list]; exact not_dg_mem n46 hr.1)).1 (by rw [B_list]; exact ho)
  rw [q, Option.bind_some, B_list, hr.2]
  exact after_val hv (by omega) (by omega) (by omega) (by omega) (by omega) hk
theorem parse_frac {a b : Int} {k : Nat} (hv : V a b) (hk : 4611686018427387910 ≤ k) : fraction_Parse.f k (B (sgn a ++ D a.natAbs ++ [47] ++ D b.natAbs)) = some (a, b, 0) := by
  obtain ⟨c, l, e, hc⟩ := D_cons a.natAbs
  have n47 : dg 47 = false := by decide
  have hr := D_read a.natAbs
  have hs := D_read b.natAbs
  obtain ⟨v1, v2, v3, v4, _⟩ := id hv
  have ho : OkD (D a.natAbs) 10 := D_ok (m := 9) (by have : (10 : Nat) ^ (9 + 1) = 10000000000 := by decide
                                                     omega)
  have hp : OkD (D b.natAbs) 7 := D_ok (m := 6) (by have : (10 : Nat) ^ (6 + 1) = 10000000 := by decide
                                                    omega)
  have et : sgn a ++ D a.natAbs ++ [47] ++ D b.natAbs = sgn a ++ c :: (l ++ 47 :: D b.natAbs) := by rw [e]; simp
  have et2 : c :: (l ++ 47 :: D b.natAbs) = D a.natAbs ++ 47 :: D b.natAbs := by rw [e]; rfl
  rw [et, parse_text a c _ hc, et2]
  have q := (parts_slash (t := B (D a.natAbs ++ 47 :: D b.natAbs)) (k := k) (by rw [B_len, List.length_append, List.length_cons]; have := ho.2.1; have := hp.2.1; omega) (B_list _) (not_dg_mem n47 hr.1)).1 ⟨ho, hp⟩
  rw [q, Option.bind_some, hr.2, hs.2]
  have eb : (b.natAbs : Int) = b := by omega
  rw [eb]
  exact after_val hv rfl (by omega) (by omega) (by omega) (by omega) hk
theorem parse_dec {a : Int} {den j : Nat} {k : Nat} (hv : V a den) (hj : 1 ≤ j) (hj6 : j ≤ 6) (hd : den ∣ 10 ^ j) (hk : 4611686018427387910 ≤ k) : fraction_Parse.f k (B (sgn a ++ D (a.natAbs / den) ++ [46] ++ pad j (a.natAbs % den * 10 ^ j / den))) = some (a, (den : Int), 0) := by
  have n47 : dg 47 = false := by decide
  have n46 : dg 46 = false := by decide
  obtain ⟨v1, v2, v3, v4, _⟩ := id hv
  have hden : 1 ≤ den := by omega
  obtain ⟨c, l, e, hc⟩ := D_cons (a.natAbs / den)
  have hr := D_read (a.natAbs / den)
  have p6 : 10 ^ j ≤ 10 ^ 6 := Nat.pow_le_pow_right (by decide) hj6
  have e6 : (10 : Nat) ^ 6 = 1000000 := by decide
  rw [e6] at p6
  have p0 : 0 < 10 ^ j := Nat.pow_pos (by decide)
  have hm : a.natAbs % den < den := Nat.mod_lt _ hden
  have hF : a.natAbs % den * 10 ^ j / den < 10 ^ j := by
    rw [Nat.div_lt_iff_lt_mul hden, Nat.mul_comm (10 ^ j)]
    exact Nat.mul_lt_mul_of_pos_right hm p0
  obtain ⟨q1, q2, q3⟩ := pad_read j _ hF
  have hq : a.natAbs / den ≤ 1000000000 := by have := Nat.div_le_self a.natAbs den; omega
  have ho : OkD (D (a.natAbs / den)) 10 := D_ok (m := 9) (by have : (10 : Nat) ^ (9 + 1) = 10000000000 := by decide
                                                             omega)
  have hp : OkD (pad j (a.natAbs % den * 10 ^ j / den)) 6 := ⟨fun x => by rw [x] at q1; simp at q1; omega, by omega, q2⟩
  have hval : ((a.natAbs / den) * 10 ^ j + a.natAbs % den * 10 ^ j / den) * den = a.natAbs * 10 ^ j := by
    have h1 : den ∣ a.natAbs % den * 10 ^ j := Nat.dvd_trans hd (Nat.dvd_mul_left _ _)
    have h2 := Nat.div_mul_cancel h1
    have h3 := Nat.div_add_mod a.natAbs den
    rw [Nat.add_mul, h2]
    generalize 10 ^ j = M
    calc a.natAbs / den * M * den + a.natAbs % den * M = (den * (a.natAbs / den) + a.natAbs % den) * M := by grind
      _ = a.natAbs * M := by rw [h3]
  generalize hFF : a.natAbs % den * 10 ^ j / den = F at *
  have et : sgn a ++ D (a.natAbs / den) ++ [46] ++ pad j F = sgn a ++ c :: (l ++ 46 :: pad j F) := by rw [e]; simp
  have et2 : c :: (l ++ 46 :: pad j F) = D (a.natAbs / den) ++ 46 :: pad j F := by rw [e]; rfl
  rw [et, parse_text a c _ hc, et2]
  have m7 : (47 : UInt8) ∉ (B (D (a.natAbs / den) ++ 46 :: pad j F)).data.toList := by
    rw [B_list]
    intro x
    rcases List.mem_append.1 x with x | x
    · exact not_dg_mem n47 hr.1 x
    · rcases List.mem_cons.1 x with x | x
      · exact absurd x (by decide)
      · exact not_dg_mem n47 q2 x
  have q := (parts_dot (t := B (D (a.natAbs / den) ++ 46 :: pad j F)) (k := k) (by omega) (by rw [B_len, List.length_append, List.length_cons]; have := ho.2.1; omega) m7 (B_list _) (not_dg_mem n46 hr.1)).1 ⟨ho, hp⟩
  rw [q, Option.bind_some, hr.2, q3, q1]
  clear q et et2 hFF
  generalize 10 ^ j = M at *
  have b1 : a.natAbs / den * M ≤ 1000000000000000 := Nat.le_trans (Nat.mul_le_mul hq p6) (by decide)
  have ec : ((a.natAbs / den : Nat) : Int) * (M : Int) = ((a.natAbs / den * M : Nat) : Int) := by push_cast; rfl
  rw [ec]
  generalize a.natAbs / den * M = N at *
  have c1 : (0 : Int) ≤ (N : Int) + (F : Int) ∧ (N : Int) + (F : Int) ≤ 2000000000000000 := by omega
  have c2 : (0 : Int) ≤ (N : Int) ∧ (N : Int) ≤ 1000000000000000 := by omega
  have c3 : (1 : Int) ≤ (M : Int) ∧ (M : Int) ≤ 1000000 := by omega
  rw [w64 (Int.le_trans (by decide) c2.1) (Int.le_trans c2.2 (by decide)), w64 (Int.le_trans (by decide) c1.1) (Int.le_trans c1.2 (by decide))]
  refine after_val hv ?_ c1.1 (Int.le_trans c1.2 (by decide)) c3.1 (Int.le_trans c3.2 (by decide)) hk
  have := congrArg (Nat.cast (R := Int)) hval
  rw [Int.natCast_mul, Int.natCast_mul, Int.natCast_add] at this
  exact this
theorem parse_fmt {a b : Int} {k : Nat} (hv : V a b) (hk : 4611686018427387910 ≤ k) : fraction_Parse.f k (B (Fmt a b)) = some (a, b, 0) := by
  unfold Fmt
  by_cases hb : b = 1
  · subst hb
    rw [if_pos rfl]
    exact parse_int hv hk
  · rw [if_neg hb]
    exact parse_frac hv hk
theorem parse_dtx {a : Int} {den j k : Nat} (hv : V a den) (hj6 : j ≤ 6) (hj : Least den j) (hk : 4611686018427387910 ≤ k) : fraction_Parse.f k (B (Dtx a den j)) = some (a, (den : Int), 0) := by
  unfold Dtx
  by_cases h0 : j = 0
  · subst h0
    have hd : den = 1 := by have := hj.1; rw [Nat.pow_zero] at this; exact Nat.dvd_one.1 this
    subst hd
    rw [if_pos rfl]
    exact parse_int hv hk
  · rw [if_neg h0]
    exact parse_dec hv (by omega) hj6 hj.1 hk
theorem pure_FractionTexts (a b : Int) : ∃ k, assessorlaw46_FractionTexts.f k a b = some true := by
  refine ⟨4611686018427389000, ?_⟩
  generalize hK : (4611686018427389000 : Nat) = k
  have hk : 4611686018427388900 < k := by omega
  clear hK
  rw [assessorlaw46_FractionTexts.f, awake_true (by omega), Option.bind_some, if_pos rfl, format_f (by omega), Option.bind_some, valid_f (by omega), Option.bind_some]
  by_cases h : V a b
  · rw [if_pos h, decide_eq_true h, if_pos rfl, parse_fmt h (by omega), Option.bind_some, if_pos rfl]
    have e1 : (!((a, b, (0 : Int)).1 == a) || (!((a, b, (0 : Int)).2.1 == b))) = false := by simp
    rw [e1]
    obtain ⟨den, rfl⟩ : ∃ v : Nat, b = v := ⟨b.natAbs, by have := h.1; omega⟩
    have h1 := h.1
    have hd0 : ¬ ((den : Nat) : Int) = 0 := by omega
    obtain ⟨k, rfl⟩ : ∃ m, k = m + 1 := ⟨k - 1, by omega⟩
    by_cases hd : den ∣ 1000000
    · obtain ⟨j, hj6, hj⟩ := least_exists den (by rw [show 10 ^ 6 = 1000000 from rfl]; exact hd)
      have em : (((1000000 : Int) % (den : Int)) == 0) = true := by
        rw [beq_iff_eq]; exact Int.emod_eq_zero_of_dvd (Int.ofNat_dvd.2 hd)
      have eb : (((a, (den : Int), (0 : Int)).1 == a) && ((a, (den : Int), (0 : Int)).2.1 == (den : Int))) = true := by simp
      rw [assessorlaw46_FractionTexts.j0, if_neg (by decide), decimal_f (by omega) h hj6 hj, Option.bind_some, if_pos rfl, parse_dtx h hj6 hj (by omega), Option.bind_some, if_pos rfl, if_pos eb, if_neg hd0, em]
    · have hno : ¬ (V a (den : Int) ∧ ((den : Int)).natAbs ∣ 1000000) := fun x => hd (by simpa using x.2)
      have hne : (den : Int) > 1 := by
        have : den ≠ 1 := fun e => hd (by rw [e]; exact Nat.one_dvd _)
        omega
      have em : (((1000000 : Int) % (den : Int)) != 0) = true := by
        rw [bne_iff_ne]
        intro e
        exact hd (by have := Int.dvd_of_emod_eq_zero e; exact Int.ofNat_dvd.1 this)
      have et : (B []).toList = ([] : List UInt8) := B_toList []
      rw [assessorlaw46_FractionTexts.j0, if_neg (by decide), decimal_no (by omega) hno, Option.bind_some, if_neg (by decide), if_pos et, if_pos hne, if_neg hd0, em]
  · have et : (B []).toList = ([] : List UInt8) := B_toList []
    rw [if_neg h, decide_eq_false h, if_neg (by decide), et]
    rfl
end Go.Proofs.YtkfibjmjamdigaaDoor.Q

/- Whatever the input: FractionTexts returns true, and the input reads afterwards as it read before (the row lists seven variables of the library; the card ties them to the program's text). No further condition. -/

namespace Go.Proofs.YtkfibjmjamdigaaDoor.fractionTexts
open Go.ChangeShapes Go.WideShapes Go.ChangeAt Go.RowKit Go.Proofs.YtkfibjmjamdigaaDoor.Q
open Go.ChangeMaps (open_string shut_string)
open Go.Joins (open_agg2)
set_option linter.unusedVariables false
theorem cells23 : Tryd.prog.cellsOf 23 = 2 := by kernel_rfl
set_option maxRecDepth 100000 in
theorem contract (H : Type) (enc : TypeId × Value → H) (W : World) (base : Nat) (args : Array Value) (ds gs : List (DataW H)) (before : List MemPlace)
    (hval : ∀ (j : Nat) t v, Tryd.f9.params[j]? = some t → args[j]? = some v → Value.okWide Tryd.prog W .any base t v)
    (hW : DataW.Whole enc Tryd.prog Tryd.f9.params.toList Rows.fractionTextsSpec.vars false W args.toList ds gs before) (hL : laidMetH Tryd.prog Rows.fractionTextsRow.laid W) :
    Calls Tryd.prog 9 args W fun e W' => ∃ v, e = .returned v ∧ Rows.fractionTextsSpec.post enc Tryd.prog Tryd.f9 false true false false W args v W' := by
  have hW' := hW
  obtain ⟨p, q, hA0, hV, rfl, hfz, hnd⟩ := hW
  have hA : DataW.TrodAll enc Tryd.prog W 0 (fun _ => true) true Tryd.f9.params.toList args.toList ds p := hA0
  rw [Tryd.params9] at hA hval
  obtain ⟨v0, vs0, d0, ds0, p0, q0, hargs, rfl, rfl, h0, r0⟩ := trodAll_cons hA
  obtain ⟨rfl, rfl, rfl⟩ := trodAll_nil r0
  obtain rfl : args = #[v0] := by cases args; simp_all
  obtain ⟨rfl, rfl⟩ := trodVars_none hV
  have k0 := h0
  have lt0 : ∀ x ∈ p0, x.block < W.heap.size := by obtain ⟨m, hm⟩ := k0; exact DataW.trod_lt m _ _ _ hm
  obtain ⟨c0, e0, y0, z0, m0, rfl, hd0, hp0, hy0, hz0⟩ := open_agg2 Tryd.underlying23 (by kernel_rfl) cells23 (hval 0 23 v0 rfl rfl) h0
  obtain ⟨a0, g0, _, wa0⟩ := DataW.trod_int Tryd.underlying3 hy0
  obtain ⟨b0, l0, _, wb0⟩ := DataW.trod_int Tryd.underlying3 hz0
  simp only [List.cons.injEq, and_true] at g0 l0
  subst g0 l0
  obtain ⟨k, hk⟩ := pure_FractionTexts a0 b0
  refine (assessorlaw46_FractionTexts.calls k a0 b0 true W ⟨rfl⟩ (tab_of_laid7 hL) hk).mono fun e W' ⟨he, bel⟩ => ?_
  subst he
  exact ⟨_, rfl, _, _, _, [], _, [], hW', trodAll_mk1 (shut_bool Tryd.underlying4 _), (trodAll_cons_mk (Below.trod laidOut (by kernel_rfl) (of_decide_eq_true (by kernel_rfl)) k0 bel lt0) trodAll_mk0), rfl, bel.frame _, fun h => by cases h⟩
theorem reads (os : Os) {H : Type} (enc : TypeId × Value → H) : ∃ places, DataW.whole enc Tryd.prog ((laidWorld7 os).forCall (fun _ _ => 0) ⟨#[], #[Value.agg #[.int .i64 0, .int .i64 0]], []⟩).memory Tryd.f9.params.toList Rows.fractionTextsSpec.vars false (#[Value.agg #[.int .i64 0, .int .i64 0]] : Array Value).toList 8 = some ([DataW.agg [.lit (.int .i64 0), .lit (.int .i64 0)]], [], places) :=
  ⟨[], by kernel_rfl⟩
set_option maxRecDepth 100000 in
theorem lifted (os : Os) (started : os.Started) (H : Type) (enc : TypeId × Value → H) (F : Stop.Interp) :
    ReturnsInHanded {} Tryd.checked os 9 .any ((OpenSpec.ofChange Rows.fractionTextsSpec).preRow enc Tryd.prog Tryd.f9 Rows.fractionTextsRow.domain false Rows.fractionTextsRow.laid) (((OpenSpec.ofChange Rows.fractionTextsSpec).at F).post enc Tryd.prog Tryd.f9 false true false false) := by
  obtain ⟨places, hx⟩ := reads os enc
  refine returnsInHanded_of_row (C := Tryd.checked) (s := OpenSpec.ofChange Rows.fractionTextsSpec) own started (by kernel_rfl) Tryd.func9
    (witness_row_at (enc := enc) (C := Tryd.checked) false (laidWorld7 os) #[Value.agg #[.int .i64 0, .int .i64 0]] rfl (by kernel_rfl) (by kernel_rfl) (by kernel_rfl)
      (OpenSpec.preRow_of_cond 8 hx (by kernel_rfl) (fun k hk => by cases hk) (by kernel_rfl) (laid_met7 os _))) ?_
  intro W base args ds gs before hval hW _ _ _ hL _ _
  exact contract H enc W base args ds gs before hval hW hL
theorem said : Rows.FractionTextsSaid :=
  OpenClaim.holds_of_cond 9 Tryd.f9 rfl rfl rfl rfl rfl rfl rfl ⟨rfl, rfl, rfl, rfl, rfl⟩ rfl rfl rfl rfl rfl (by kernel_rfl) Tryd.func9 (by kernel_rfl)
    (of_decide_eq_true (by kernel_rfl)) (by unfold Func.isWrapper; first | (rw [if_pos (by decide +kernel)]; kernel_rfl) | (rw [if_neg (by decide +kernel)]; exact ⟨rfl, rfl⟩))
    (fun os started H enc _ F => by rw [OpenClaim.pre_eq_preRow]; exact lifted os started H enc F)
theorem plain (f : FuncId) (fn : Func) (hf : Tryd.pinned.checked.prog.funcNamed "assessor/assessorlaw46.FractionTexts" = some f) (hfn : Tryd.pinned.checked.prog.funcs[f]? = some fn) :
    true = Tryd.pinned.checked.prog.looks [] ∧ ∀ (j : Nat) t, fn.params[j]? = some t → Tryd.pinned.checked.prog.wantsStandIn t = false := by
  obtain rfl : f = 9 := Option.some.inj ((show Tryd.prog.funcNamed "assessor/assessorlaw46.FractionTexts" = some 9 by kernel_rfl).symm.trans hf) |>.symm
  obtain rfl : fn = Tryd.f9 := (Option.some.inj (Tryd.func9.symm.trans hfn)).symm
  refine ⟨by kernel_rfl, fun j t ht => ?_⟩
  rw [Tryd.params9] at ht
  have hm : t ∈ [23] := by have h := Array.mem_of_getElem? ht; simp at h ⊢; first | omega | grind
  have hall : ([23].all fun u => !Tryd.prog.wantsStandIn u) = true := by kernel_rfl
  exact (show Tryd.prog.wantsStandIn t = false by simpa using List.all_eq_true.1 hall t hm)
theorem card : Rows.FractionTextsCardSaid :=
  Claim7.holds_tied_plain_at .later [] _ _ _ _ said (fun _ h => by cases h) (by kernel_rfl) (fun _ h => by cases h) fractionTexts_row_tie rfl ⟨rfl, rfl⟩ (by kernel_rfl) rfl plain (by kernel_rfl)
end Go.Proofs.YtkfibjmjamdigaaDoor.fractionTexts
namespace Go.Proofs.YtkfibjmjamdigaaDoor

theorem fractionTexts_card_holds : Rows.FractionTextsCardSaid := fractionTexts.card
#print axioms fractionTexts_card_holds
end Go.Proofs.YtkfibjmjamdigaaDoor

