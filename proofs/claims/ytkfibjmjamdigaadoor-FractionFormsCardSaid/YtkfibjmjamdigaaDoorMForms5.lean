/- Whatever the input: FractionForms returns true, and the input reads afterwards as it read before (the row lists three tables of the library; the card ties them to the program's text). No further condition. -/
import Derived.Lib.ItoaLen
import Derived.ShutString
import Derived.SizedLaws
import Derived.ChangeOld
import Derived.Below
import Derived.SevenTiedAt
import Derived.Test.YtkfibjmjamdigaaDoorMForms2
import Derived.Test.YtkfibjmjamdigaaDoorMForms3
import Derived.Test.YtkfibjmjamdigaaDoorMForms4
/- Plain facts on texts: numbers in decimal, as the program and the reference write them. -/
namespace Go.Proofs.YtkfibjmjamdigaaDoor.Q
set_option linter.unusedVariables false
open Go.RowKit Go.Proofs.YtkfibjmjamdigaaDoorW.PrintWords Go.Proofs.YtkfibjmjamdigaaDoorW.PrintLast Go.Proofs.YtkfibjmjamdigaaDoorW.PrintMore
/-- the text with these bytes -/
def B (l : List UInt8) : ByteArray := ⟨l.toArray⟩
theorem B_app (l m : List UInt8) : B l ++ B m = B (l ++ m) := by
  apply ByteArray.ext
  simp [B]
theorem B_size (l : List UInt8) : (B l).size = l.length := by simp [B, ByteArray.size]
theorem B_drop (l : List UInt8) : (B l).extract 1 (B l).size = B (l.drop 1) := by
  apply ByteArray.ext
  rw [B_size]
  simp [B]
  rw [List.take_of_length_le (by simp)]
theorem B_toList (l : List UInt8) : (B l).toList = l := by
  rw [ByteArray.toList_eq]
  show l.toArray.toList = l
  simp
abbrev D := Lib.decDigits
theorem D_small {u : Nat} (h : u < 10) : D u = [UInt8.ofNat (48 + u)] := Lib.decDigits_one h
theorem D_big {u : Nat} (h : ¬ u < 10) : D u = D (u / 10) ++ [UInt8.ofNat (48 + u % 10)] := by rw [D, Lib.decDigits, dif_neg h]
theorem D_len (u : Nat) (h : u ≤ 9223372036854775807) : (D u).length ≤ 21 := by
  have := Lib.itoa_length_le (u : Int) (by omega) (by omega)
  rwa [Lib.itoa_nonneg] at this
theorem digit_byte (u : Nat) (h : u ≤ 4611686018427387904) : strOfNums [(wrap64 (48 + (Int.tmod (u : Int) 10))) % 256] = B [UInt8.ofNat (48 + u % 10)] := by
  have e : Int.tmod (u : Int) 10 = ((u % 10 : Nat) : Int) := by rw [Int.tmod_eq_emod_of_nonneg (by omega)]; simp
  rw [e, w64 (by omega) (by omega)]
  have e2 : (48 + ((u % 10 : Nat) : Int)) % 256 = ((48 + u % 10 : Nat) : Int) := by omega
  rw [e2]
  unfold strOfNums B
  simp only [List.map_cons, List.map_nil]
  rfl
theorem tdiv10 (u : Nat) (h : u ≤ 4611686018427387904) : wrap64 (Int.tdiv (u : Int) 10) = ((u / 10 : Nat) : Int) := by
  have e : Int.tdiv (u : Int) 10 = ((u / 10 : Nat) : Int) := by rw [Int.tdiv_eq_ediv_of_nonneg (by omega)]; simp
  rw [e, w64 (by omega) (by omega)]
theorem number_l0 (u : Nat) : ∀ (k : Nat) (l : List UInt8), l ≠ [] → u < k → l.length + u ≤ 4611686018427387904 → assessorref46_Number.l0 k (u : Int) (B l) = some (B ((if u = 0 then [] else D u) ++ l)) := by
  induction u using Nat.strongRecOn with
  | ind u ih =>
    intro k l hl hk hb
    obtain ⟨k, rfl⟩ : ∃ m, k = m + 1 := ⟨k - 1, by omega⟩
    simp only [assessorref46_Number.l0]
    rw [B_toList, if_neg hl]
    by_cases h : u = 0
    · subst h
      rw [if_neg (by omega)]
      simp
    · rw [if_pos (by omega)]
      simp only [Option.bind_some]
      rw [digit_byte u (by omega), B_size, B_size, if_pos (by simp; omega), B_app, tdiv10 u (by omega)]
      rw [ih (u / 10) (by omega) k _ (by simp) (by omega) (by simp; omega)]
      congr 2
      rw [if_neg h]
      by_cases h2 : u < 10
      · have : u / 10 = 0 := by omega
        rw [if_pos this, D_small h2, Nat.mod_eq_of_lt h2]
        simp
      · rw [if_neg (by omega), D_big h2]
        simp
theorem number_f {k : Nat} (u : Nat) (hk : u + 1 < k) (hb : u ≤ 4611686018427387900) : assessorref46_Number.f k (u : Int) = some (B (D u)) := by
  unfold assessorref46_Number.f
  obtain ⟨k, rfl⟩ : ∃ m, k = m + 1 := ⟨k - 1, by omega⟩
  show assessorref46_Number.l0 (k + 1) (u : Int) (B []) = _
  simp only [assessorref46_Number.l0]
  rw [B_toList, if_pos rfl]
  simp only [Option.bind_some]
  rw [digit_byte u (by omega), B_size, B_size, if_pos (by simp), B_app, tdiv10 u (by omega)]
  rw [number_l0 (u / 10) k _ (by simp) (by omega) (by simp; omega)]
  congr 2
  by_cases h2 : u < 10
  · have : u / 10 = 0 := by omega
    rw [if_pos this, D_small h2, Nat.mod_eq_of_lt h2]
    simp
  · rw [if_neg (by omega), D_big h2]
    simp
def sgn (n : Int) : List UInt8 := if n < 0 then [45] else []
theorem signed_f {n : Int} (h1 : -9223372036854775807 ≤ n) (h2 : n ≤ 9223372036854775807) : assessorref46_signed.f n = some (B (sgn n), (n.natAbs : Int)) := by
  unfold assessorref46_signed.f sgn
  by_cases h : n < 0
  · rw [if_pos h, if_pos h, w64 (by omega) (by omega)]
    show some (B [45], -n) = _
    rw [show -n = (n.natAbs : Int) by omega]
  · rw [if_neg h, if_neg h]
    show some (B [], n) = _
    rw [show n = (n.natAbs : Int) by omega]
    simp
theorem itoa_f {n : Int} (h1 : -9223372036854775808 ≤ n) (h2 : n ≤ 9223372036854775807) : strconv_Itoa.f n = some (B (sgn n ++ D n.natAbs)) := by
  unfold strconv_Itoa.f
  rw [if_pos h1, if_pos h2]
  unfold sgn Lib.itoa B
  by_cases h : n < 0
  · rw [if_pos h, if_pos h]; simp
  · rw [if_neg h, if_neg h, show n.toNat = n.natAbs by omega]; simp
theorem refgcd_l0 (y : Nat) : ∀ (k x : Nat), y < k → assessorref46_gcd.l0 k (x : Int) (y : Int) = some ((Nat.gcd x y : Nat) : Int) := by
  induction y using Nat.strongRecOn with
  | ind y ih =>
    intro k x hk
    obtain ⟨k, rfl⟩ : ∃ m, k = m + 1 := ⟨k - 1, by omega⟩
    simp only [assessorref46_gcd.l0]
    by_cases h : y = 0
    · subst h
      rw [if_neg (by omega)]
      simp
    · rw [if_pos (by omega), if_neg (by omega)]
      have e : Int.tmod (x : Int) (y : Int) = ((x % y : Nat) : Int) := by rw [Int.tmod_eq_emod_of_nonneg (by omega)]; simp
      rw [e, ih (x % y) (Nat.mod_lt _ (by omega)) k y (by have := Nat.mod_lt x (by omega : y > 0); omega)]
      rw [Nat.gcd_comm y (x % y), ← Nat.gcd_rec y x, Nat.gcd_comm y x]
theorem refgcd_f {k : Nat} {a b : Int} (h1 : -9223372036854775807 ≤ a) (h2 : a ≤ 9223372036854775807) (hb : 0 ≤ b) (hk : b + 1 < k) : assessorref46_gcd.f k a b = some ((Nat.gcd a.natAbs b.natAbs : Nat) : Int) := by
  obtain ⟨k, rfl⟩ : ∃ m, k = m + 1 := ⟨k - 1, by omega⟩
  unfold assessorref46_gcd.f
  have := refgcd_l0 b.natAbs k a.natAbs (by omega)
  rw [show ((b.natAbs : Nat) : Int) = b by omega] at this
  by_cases h : a < 0
  · rw [if_pos h, w64 (by omega) (by omega)]
    simp only [assessorref46_gcd.j0]
    rwa [show -a = ((a.natAbs : Nat) : Int) by omega]
  · rw [if_neg h]
    simp only [assessorref46_gcd.j0]
    rwa [show ((a.natAbs : Nat) : Int) = a by omega] at this
theorem refvalid_f {k : Nat} (hk : 1000002 < k) (n d : Int) : assessorref46_Valid.f k n d = some (decide (V n d)) := by
  unfold assessorref46_Valid.f
  by_cases h1 : d ≥ 1
  · by_cases h2 : d ≤ 1000000
    · by_cases h3 : n ≥ -1000000000
      · by_cases h4 : n ≤ 1000000000
        · rw [if_pos h1, if_pos h2, if_pos h3, if_pos h4, refgcd_f (by omega) (by omega) (by omega) (by omega)]
          simp only [Option.bind_some, Option.some.injEq]
          rw [Bool.eq_iff_iff]
          rw [beq_iff_eq, decide_eq_true_eq]
          constructor
          · intro h
            exact ⟨h1, h2, h3, h4, by omega⟩
          · intro h
            have := h.2.2.2.2
            omega
        · rw [if_pos h1, if_pos h2, if_pos h3, if_neg h4]; exact congrArg some (decide_eq_false (fun h => h4 h.2.2.2.1)).symm
      · rw [if_pos h1, if_pos h2, if_neg h3]; exact congrArg some (decide_eq_false (fun h => h3 h.2.2.1)).symm
    · rw [if_pos h1, if_neg h2]; exact congrArg some (decide_eq_false (fun h => h2 h.2.1)).symm
  · rw [if_neg h1]; exact congrArg some (decide_eq_false (fun h => h1 h.1)).symm
end Go.Proofs.YtkfibjmjamdigaaDoor.Q
/- Formats: the program's and the reference's texts of fractions and of hundredths are the same. -/
namespace Go.Proofs.YtkfibjmjamdigaaDoor.Q
set_option linter.unusedVariables false
open Go.RowKit Go.Proofs.YtkfibjmjamdigaaDoorW.PrintWords Go.Proofs.YtkfibjmjamdigaaDoorW.PrintLast Go.Proofs.YtkfibjmjamdigaaDoorW.PrintMore
theorem D_ne (u : Nat) : 1 ≤ (D u).length := by
  by_cases h : u < 10
  · rw [D_small h]; simp
  · rw [D_big h]; simp
def pad (i F : Nat) : List UInt8 := (D (10 ^ i + F)).drop 1
theorem pad_zero : pad 0 0 = [] := by simp [pad, D_small]
theorem pad_low (i F : Nat) (h : F < 10 ^ (i + 1)) : pad (i + 1) F = pad i (F / 10) ++ [UInt8.ofNat (48 + F % 10)] := by
  unfold pad
  have hp : 10 ^ (i + 1) = 10 * 10 ^ i := by rw [Nat.pow_succ, Nat.mul_comm]
  have h1 : 1 ≤ 10 ^ i := Nat.one_le_pow _ _ (by omega)
  rw [hp] at h ⊢
  generalize 10 ^ i = P at *
  rw [D_big (u := 10 * P + F) (by omega), show (10 * P + F) / 10 = P + F / 10 by omega, show (10 * P + F) % 10 = F % 10 by omega]
  rw [List.drop_append_of_le_length (D_ne _)]
theorem pad_high : ∀ (i d G : Nat), d < 10 → G < 10 ^ i → pad (i + 1) (d * 10 ^ i + G) = UInt8.ofNat (48 + d) :: pad i G
  | 0, d, G, hd, hG => by
    have : G = 0 := by simp at hG; exact hG
    subst this
    rw [pad_low _ _ (by simp; omega)]
    simp only [Nat.pow_zero, Nat.mul_one, Nat.add_zero, pad_zero]
    rw [show d / 10 = 0 by omega, show d % 10 = d by omega, pad_zero]
    rfl
  | i + 1, d, G, hd, hG => by
    have hp : 10 ^ (i + 1) = 10 * 10 ^ i := by rw [Nat.pow_succ, Nat.mul_comm]
    have hp2 : 10 ^ (i + 1 + 1) = 10 * 10 ^ (i + 1) := by rw [Nat.pow_succ, Nat.mul_comm]
    have e1 : (d * 10 ^ (i + 1) + G) / 10 = d * 10 ^ i + G / 10 := by
      rw [hp, show d * (10 * 10 ^ i) = 10 * (d * 10 ^ i) by rw [Nat.mul_left_comm]]
      omega
    have e2 : (d * 10 ^ (i + 1) + G) % 10 = G % 10 := by
      rw [hp, show d * (10 * 10 ^ i) = 10 * (d * 10 ^ i) by rw [Nat.mul_left_comm]]
      omega
    have lt : d * 10 ^ (i + 1) + G < 10 ^ (i + 1 + 1) := by
      have : d * 10 ^ (i + 1) ≤ 9 * 10 ^ (i + 1) := Nat.mul_le_mul_right _ (by omega)
      omega
    rw [pad_low _ _ lt, e1, e2, pad_high i d (G / 10) hd (by omega), pad_low _ _ hG]
    rfl
theorem natdiv (x d : Nat) (hx : x ≤ 4611686018427387904) : wrap64 (Int.tdiv (x : Int) (d : Int)) = ((x / d : Nat) : Int) := by
  have e : Int.tdiv (x : Int) (d : Int) = ((x / d : Nat) : Int) := by rw [Int.tdiv_eq_ediv_of_nonneg (by omega)]; simp
  have h := Nat.div_le_self x d
  rw [e]
  generalize x / d = q at *
  exact w64 (by omega) (by omega)
theorem natmod (x d : Nat) : Int.tmod (x : Int) (d : Int) = ((x % d : Nat) : Int) := by rw [Int.tmod_eq_emod_of_nonneg (by omega)]; simp
theorem sgn_nat (u : Nat) : sgn (u : Int) = [] := by unfold sgn; rw [if_neg (by omega)]
theorem e45 : (⟨#[45]⟩ : ByteArray) = B [45] := rfl
theorem e46 : (⟨#[46]⟩ : ByteArray) = B [46] := rfl
theorem e47 : (⟨#[47]⟩ : ByteArray) = B [47] := rfl
theorem e00 : (⟨#[]⟩ : ByteArray) = B [] := rfl
theorem point_j0 {k : Nat} (n : Int) (p : Nat) (s : List UInt8) (hs : s.length ≤ 1) (h1 : -4611686018427387904 ≤ n) (h2 : n ≤ 4611686018427387904) (hp : 1 ≤ p) (hp2 : p ≤ 1000000) :
    fraction_point.j0 (k + 1) n (p : Int) (B s) = some (B (s ++ D (n.natAbs / p) ++ [46] ++ (D (p + n.natAbs % p)).drop 1)) := by
  have hp0 : ¬ ((p : Int) = 0) := by omega
  have q1 := Nat.mod_lt n.natAbs (show p > 0 by omega)
  have q2 := Nat.div_le_self n.natAbs p
  have ea : fraction_abs.f n = some ((n.natAbs : Nat) : Int) := abs_f (by omega) (by omega)
  have ed := natdiv n.natAbs p (by omega)
  have em := natmod n.natAbs p
  generalize n.natAbs % p = r at *
  generalize n.natAbs / p = q at *
  have l1 := D_len (p + r) (by omega)
  have l2 := D_len q (by omega)
  have n1 := D_ne (p + r)
  have hz : 1 ≤ ((B (D (p + r))).size : Int) := by rw [B_size]; omega
  have i1 : strconv_Itoa.f ((p + r : Nat) : Int) = some (B (D (p + r))) := by
    have := itoa_f (n := ((p + r : Nat) : Int)) (by omega) (by omega)
    rwa [sgn_nat, Int.natAbs_natCast, List.nil_append] at this
  have i2 : strconv_Itoa.f (q : Int) = some (B (D q)) := by
    have := itoa_f (n := (q : Int)) (by omega) (by omega)
    rwa [sgn_nat, Int.natAbs_natCast, List.nil_append] at this
  have es : wrap64 ((p : Int) + (r : Int)) = ((p + r : Nat) : Int) := by
    rw [w64 (by omega) (by omega)]; omega
  rw [fraction_point.j0, ea, Option.bind_some, if_neg hp0, em, es, i1, Option.bind_some, if_pos hz, Option.bind_some, ed, i2, Option.bind_some, B_drop]
  clear ea ed em es i1 i2
  rw [e46, B_app, B_app, B_app]
  rw [B_size, B_size, B_size, B_size, B_size]
  rw [if_pos (by omega), if_pos (by rw [List.length_append]; omega), if_pos (by rw [List.length_append, List.length_append, List.length_drop]; simp only [List.length_cons, List.length_nil]; omega)]
theorem point_f {k : Nat} (hk : 0 < k) (n : Int) (p : Nat) (h1 : -4611686018427387904 ≤ n) (h2 : n ≤ 4611686018427387904) (hp : 1 ≤ p) (hp2 : p ≤ 1000000) :
    fraction_point.f k n (p : Int) = some (B (sgn n ++ D (n.natAbs / p) ++ [46] ++ (D (p + n.natAbs % p)).drop 1)) := by
  obtain ⟨k, rfl⟩ : ∃ m, k = m + 1 := ⟨k - 1, by omega⟩
  rw [fraction_point.f, sgn, e45, e00]
  by_cases h : n < 0
  · rw [if_pos h, if_pos h]
    exact point_j0 n p [45] (by simp) h1 h2 hp hp2
  · rw [if_neg h, if_neg h]
    exact point_j0 n p [] (by simp) h1 h2 hp hp2
def Fmt (a b : Int) : List UInt8 := if b = 1 then sgn a ++ D a.natAbs else sgn a ++ D a.natAbs ++ [47] ++ D b.natAbs
theorem sgn_len (n : Int) : (sgn n).length ≤ 1 := by unfold sgn; split <;> simp
theorem format_f {k : Nat} (hk : 1000002 < k) (a b : Int) : fraction_Format.f k a b = some (B (if V a b then Fmt a b else [])) := by
  unfold fraction_Format.f
  rw [valid_f (by omega)]
  simp only [Option.bind_some, decide_eq_true_eq]
  by_cases h : V a b
  · rw [if_pos h, if_pos h]
    obtain ⟨h1, h2, h3, h4, _⟩ := h
    obtain ⟨v, rfl⟩ : ∃ v : Nat, b = v := ⟨b.natAbs, by omega⟩
    have l1 := D_len a.natAbs (by omega)
    have l2 := D_len v (by omega)
    have l3 := sgn_len a
    rw [itoa_f (by omega) (by omega), itoa_f (by omega) (by omega)]
    simp only [sgn_nat, Int.natAbs_natCast, List.nil_append, Option.bind_some, Fmt]
    by_cases h5 : (v : Int) = 1
    · rw [if_pos h5, if_pos h5]
    · rw [if_neg h5, if_neg h5]
      rw [e47]
      rw [B_app, B_app]
      simp only [B_size, List.length_append, List.length_cons, List.length_nil]
      rw [if_pos (by omega), if_pos (by omega)]
  · rw [if_neg h, if_neg h, e00]
theorem refformat_f {k : Nat} (hk : 1000000010 < k) (a b : Int) : assessorref46_Format.f k a b = some (B (if V a b then Fmt a b else [])) := by
  unfold assessorref46_Format.f
  rw [refvalid_f (by omega)]
  simp only [Option.bind_some, decide_eq_true_eq]
  by_cases h : V a b
  · rw [if_pos h, if_pos h]
    obtain ⟨h1, h2, h3, h4, _⟩ := h
    obtain ⟨v, rfl⟩ : ∃ v : Nat, b = v := ⟨b.natAbs, by omega⟩
    have l1 := D_len a.natAbs (by omega)
    have l2 := D_len v (by omega)
    have l3 := sgn_len a
    rw [signed_f (by omega) (by omega)]
    simp only [Option.bind_some]
    rw [number_f _ (by omega) (by omega), number_f _ (by omega) (by omega)]
    simp only [Option.bind_some, Fmt, Int.natAbs_natCast]
    by_cases h5 : (v : Int) = 1
    · rw [if_pos h5, if_pos h5, B_app]
      simp only [B_size]
      rw [if_pos (by omega)]
    · rw [if_neg h5, if_neg h5]
      rw [e47]
      rw [B_app, B_app, B_app]
      simp only [B_size, List.length_append, List.length_cons, List.length_nil]
      rw [if_pos (by omega), if_pos (by omega), if_pos (by omega)]
  · rw [if_neg h, if_neg h, e00]
theorem two_digits (m : Nat) (h : m < 100) : (D (100 + m)).drop 1 = D (m / 10) ++ D (m % 10) := by
  have e : pad 2 m = D (m / 10) ++ D (m % 10) := by
    rw [pad_low 1 m (by omega), pad_low 0 (m / 10) (by omega), show m / 10 / 10 = 0 by omega, pad_zero, D_small (u := m / 10) (by omega), D_small (u := m % 10) (by omega), show m / 10 % 10 = m / 10 by omega]
    rfl
  rw [pad, show 10 ^ 2 = 100 from rfl] at e
  exact e
def Pts (n : Int) : List UInt8 := sgn n ++ D (n.natAbs / 100) ++ [46] ++ D (n.natAbs / 10 % 10) ++ D (n.natAbs % 10)
theorem points_f {k : Nat} (hk : 0 < k) (n : Int) : fraction_Points.f k n = some (B (if -100000000 ≤ n ∧ n ≤ 100000000 then Pts n else [])) := by
  unfold fraction_Points.f
  by_cases h1 : n < -100000000
  · rw [if_pos h1, if_neg (by omega), e00]
  · by_cases h2 : n > 100000000
    · rw [if_neg h1, if_pos h2, if_neg (by omega), e00]
    · rw [if_neg h1, if_neg h2, if_pos (by omega)]
      have := point_f hk n 100 (by omega) (by omega) (by omega) (by omega)
      rw [show ((100 : Nat) : Int) = 100 from rfl] at this
      rw [this]
      simp only [Option.bind_some, Pts]
      rw [two_digits _ (Nat.mod_lt _ (by omega)), show n.natAbs % 100 / 10 = n.natAbs / 10 % 10 by omega, show n.natAbs % 100 % 10 = n.natAbs % 10 by omega]
      simp
theorem refpoints_f {k : Nat} (hk : 100000010 < k) (n : Int) : assessorref46_Points.f k n = some (B (if -100000000 ≤ n ∧ n ≤ 100000000 then Pts n else [])) := by
  obtain ⟨k, rfl⟩ : ∃ m, k = m + 1 := ⟨k - 1, by omega⟩
  have bad : assessorref46_Points.j0 (k + 1) n true = some (B []) := by simp only [assessorref46_Points.j0, if_true, e00]
  unfold assessorref46_Points.f
  by_cases h1 : n < -100000000
  · rw [if_pos h1, if_neg (by omega)]; exact bad
  · by_cases h2 : n > 100000000
    · rw [if_neg h1, if_neg (by omega), decide_eq_true h2]; exact bad
    · rw [if_neg h1, if_pos (by omega), decide_eq_false h2]
      simp only [assessorref46_Points.j0, Bool.false_eq_true, if_false]
      rw [signed_f (by omega) (by omega)]
      simp only [Option.bind_some]
      rw [show (100 : Int) = ((100 : Nat) : Int) from rfl, show (10 : Int) = ((10 : Nat) : Int) from rfl, natdiv _ _ (by omega), natdiv _ _ (by omega), natmod, natmod]
      rw [number_f _ (by omega) (by omega), number_f _ (by omega) (by omega), number_f _ (by omega) (by omega)]
      have l1 := D_len (n.natAbs / 100) (by omega)
      have l2 := D_len (n.natAbs / 10 % 10) (by omega)
      have l3 := D_len (n.natAbs % 10) (by omega)
      have l4 := sgn_len n
      simp only [Option.bind_some]
      rw [e46]
      rw [B_app, B_app, B_app, B_app]
      simp only [B_size, List.length_append, List.length_cons, List.length_nil]
      rw [if_pos (by omega), if_pos (by omega), if_pos (by omega), if_pos (by omega), Pts]
end Go.Proofs.YtkfibjmjamdigaaDoor.Q
/- Decimal texts: the program's and the reference's are the same. -/
namespace Go.Proofs.YtkfibjmjamdigaaDoor.Q
set_option linter.unusedVariables false
open Go.RowKit Go.Proofs.YtkfibjmjamdigaaDoorW.PrintWords Go.Proofs.YtkfibjmjamdigaaDoorW.PrintLast Go.Proofs.YtkfibjmjamdigaaDoorW.PrintMore
theorem step_div (den rest j : Nat) (hd : 1 ≤ den) (h : den ∣ rest * 10 ^ (j + 1)) : rest * 10 ^ (j + 1) / den = (10 * rest / den) * 10 ^ j + (10 * rest % den) * 10 ^ j / den ∧ den ∣ (10 * rest % den) * 10 ^ j := by
  have e : rest * 10 ^ (j + 1) = (10 * rest) * 10 ^ j := by rw [Nat.pow_succ]; grind
  rw [e] at h ⊢
  have dm := Nat.div_add_mod (10 * rest) den
  generalize 10 * rest / den = q at *
  generalize 10 * rest % den = r at *
  rw [← dm] at h ⊢
  have e2 : (den * q + r) * 10 ^ j = den * (q * 10 ^ j) + r * 10 ^ j := by grind
  rw [e2] at h ⊢
  have h2 : den ∣ r * 10 ^ j := (Nat.dvd_add_right (Nat.dvd_mul_right _ _)).1 h
  refine ⟨?_, h2⟩
  rw [Nat.mul_add_div (by omega)]
theorem refdec_l0 (den : Nat) (num : Int) (hd : 1 ≤ den) (hd2 : den ≤ 1000000) : ∀ (j k : Nat) (s : List UInt8) (rest : Nat), rest < den → den ∣ rest * 10 ^ j → (∀ i, i < j → ¬ den ∣ rest * 10 ^ i) → s.length + j ≤ 100 → 100 + j < k →
    assessorref46_Decimal.l0 k (B s) (rest : Int) num (den : Int) = some (B (s ++ pad j (rest * 10 ^ j / den)), true) := by
  intro j
  induction j with
  | zero =>
    intro k s rest hr hdiv hmin hs hk
    obtain ⟨k, rfl⟩ : ∃ m, k = m + 1 := ⟨k - 1, by omega⟩
    have h0 : rest = 0 := by
      rw [Nat.pow_zero, Nat.mul_one] at hdiv
      rcases Nat.eq_zero_or_pos rest with h | h
      · exact h
      · have := Nat.le_of_dvd h hdiv; omega
    subst h0
    have hn : ¬ (((0 : Nat) : Int) > 0) := by omega
    rw [assessorref46_Decimal.l0, if_neg hn, Nat.zero_mul, Nat.zero_div, pad_zero, List.append_nil]
  | succ j ih =>
    intro k s rest hr hdiv hmin hs hk
    obtain ⟨k, rfl⟩ : ∃ m, k = m + 1 := ⟨k - 1, by omega⟩
    have hpos : 0 < rest := by
      rcases Nat.eq_zero_or_pos rest with h | h
      · exfalso; subst h; exact hmin 0 (by omega) (by rw [Nat.zero_mul]; exact Nat.dvd_zero _)
      · exact h
    obtain ⟨e1, e2⟩ := step_div den rest j hd hdiv
    have hq : 10 * rest / den < 10 := by rw [Nat.div_lt_iff_lt_mul (by omega)]; omega
    have hrr := Nat.mod_lt (10 * rest) (show den > 0 by omega)
    have hmin' : ∀ i, i < j → ¬ den ∣ (10 * rest % den) * 10 ^ i := by
      intro i hi hdv
      refine hmin (i + 1) (by omega) ?_
      have e : rest * 10 ^ (i + 1) = (10 * rest) * 10 ^ i := by rw [Nat.pow_succ]; grind
      rw [e, ← Nat.div_add_mod (10 * rest) den]
      have e3 : (den * (10 * rest / den) + 10 * rest % den) * 10 ^ i = den * (10 * rest / den * 10 ^ i) + 10 * rest % den * 10 ^ i := by grind
      rw [e3]
      exact Nat.dvd_add (Nat.dvd_mul_right _ _) hdv
    have hG : (10 * rest % den) * 10 ^ j / den < 10 ^ j := by
      rw [Nat.div_lt_iff_lt_mul (by omega), Nat.mul_comm]
      exact Nat.mul_lt_mul_of_pos_left hrr (Nat.pow_pos (by omega))
    have hp : ((rest : Nat) : Int) > 0 := by omega
    have hd0 : ¬ ((den : Nat) : Int) = 0 := by omega
    have w1 : wrap64 (10 * (rest : Int)) = ((10 * rest : Nat) : Int) := by rw [w64 (by omega) (by omega)]; omega
    have nf := number_f (k := k) (10 * rest / den) (by omega) (by omega)
    have nd := natdiv (10 * rest) den (by omega)
    have nm := natmod (10 * rest) den
    have dl : D (10 * rest / den) = [UInt8.ofNat (48 + 10 * rest / den)] := D_small hq
    have sz : (B s).size + (B (D (10 * rest / den))).size ≤ 9223372036854775807 := by
      rw [B_size, B_size, dl, List.length_singleton]; clear w1 nf nd nm; omega
    have ih' := ih k (s ++ D (10 * rest / den)) (10 * rest % den) hrr e2 hmin' (by rw [dl, List.length_append, List.length_singleton]; omega) (by omega)
    rw [assessorref46_Decimal.l0, if_pos hp, if_neg hd0, w1, nd, nf, Option.bind_some, if_pos sz, B_app, nm, ih', e1, pad_high _ _ _ hq hG, dl, List.append_assoc]
    rfl
/-- the least number of places -/
def Least (den j : Nat) : Prop := den ∣ 10 ^ j ∧ ∀ i, i < j → ¬ den ∣ 10 ^ i
/-- the decimal text of a fraction with so many places -/
def Dtx (a : Int) (den j : Nat) : List UInt8 := if j = 0 then sgn a ++ D a.natAbs else sgn a ++ D (a.natAbs / den) ++ [46] ++ pad j (a.natAbs % den * 10 ^ j / den)
theorem least_exists (den : Nat) (h : den ∣ 10 ^ 6) : ∃ j, j ≤ 6 ∧ Least den j := by
  have main : ∀ n, den ∣ 10 ^ n → ∃ j, j ≤ n ∧ Least den j := by
    intro n
    induction n with
    | zero => intro h; exact ⟨0, Nat.le_refl _, h, fun i hi => absurd hi (by omega)⟩
    | succ n ih =>
      intro h
      by_cases h2 : ∃ i, i < n + 1 ∧ den ∣ 10 ^ i
      · obtain ⟨i, hi, hd⟩ := h2
        have : den ∣ 10 ^ n := Nat.dvd_trans hd (Nat.pow_dvd_pow 10 (by omega))
        obtain ⟨j, hj, hl⟩ := ih this
        exact ⟨j, by omega, hl⟩
      · exact ⟨n + 1, Nat.le_refl _, h, fun i hi hd => h2 ⟨i, hi, hd⟩⟩
  exact main 6 h
theorem cop_dvd {a den i : Nat} (hc : Nat.gcd a den = 1) (h : den ∣ a * 10 ^ i) : den ∣ 10 ^ i := by
  have : Nat.Coprime den a := by rw [Nat.Coprime, Nat.gcd_comm]; exact hc
  exact this.dvd_of_dvd_mul_left h
theorem refdec_f {k : Nat} (hk : 1000000010 < k) {a : Int} {den : Nat} (hv : V a den) {j : Nat} (hj6 : j ≤ 6) (hj : Least den j) : assessorref46_Decimal.f k a den = some (B (Dtx a den j), true) := by
  have hv' := hv
  obtain ⟨h1, h2, h3, h4, h5⟩ := hv
  rw [Int.natAbs_natCast] at h5
  have rv := refvalid_f (k := k) (by omega) a (den : Int)
  rw [decide_eq_true hv'] at rv
  have hd0 : ¬ ((den : Nat) : Int) = 0 := by omega
  have hdiv6 : den ∣ 1000000 := Nat.dvd_trans hj.1 (by rw [show 1000000 = 10 ^ 6 from rfl]; exact Nat.pow_dvd_pow 10 hj6)
  have hmod : ((1000000 : Int) % (den : Int) != 0) = false := by
    have : (1000000 : Int) % (den : Int) = 0 := Int.emod_eq_zero_of_dvd (Int.ofNat_dvd.2 hdiv6)
    rw [this]; rfl
  obtain ⟨k, rfl⟩ : ∃ m, k = m + 1 := ⟨k - 1, by omega⟩
  have sf := signed_f (n := a) (by omega) (by omega)
  have nd := natdiv a.natAbs den (by omega)
  have nm := natmod a.natAbs den
  have ql := Nat.div_le_self a.natAbs den
  have hrest := Nat.mod_lt a.natAbs (show den > 0 by omega)
  have hrd : ∀ i, den ∣ a.natAbs % den * 10 ^ i ↔ den ∣ 10 ^ i := by
    intro i
    constructor
    · intro h
      refine cop_dvd h5 ?_
      rw [← Nat.div_add_mod a.natAbs den, show (den * (a.natAbs / den) + a.natAbs % den) * 10 ^ i = den * (a.natAbs / den * 10 ^ i) + a.natAbs % den * 10 ^ i by grind]
      exact Nat.dvd_add (Nat.dvd_mul_right _ _) h
    · intro h
      exact Nat.dvd_trans h (Nat.dvd_mul_left _ _)
  have l0 := fun (m : Nat) (hm : 200 < m) (s : List UInt8) (hs : s.length ≤ 50) => refdec_l0 den a (by omega) (by omega) j m s (a.natAbs % den) hrest ((hrd j).2 hj.1) (fun i hi hd => hj.2 i hi ((hrd i).1 hd)) (by omega) (by omega)
  have dl := D_len (a.natAbs / den) (by omega)
  have sl := sgn_len a
  have nf := number_f (k := k) (a.natAbs / den) (by omega) (by omega)
  have sz1 : (B (sgn a)).size + (B (D (a.natAbs / den))).size ≤ 9223372036854775807 := by rw [B_size, B_size]; clear sf nd nm nf rv; omega
  have sz2 : (B (sgn a) ++ B (D (a.natAbs / den))).size + 1 ≤ 9223372036854775807 := by rw [B_app, B_size, List.length_append]; clear sf nd nm nf rv; omega
  rw [assessorref46_Decimal.f, rv, Option.bind_some, if_pos rfl, if_neg hd0, hmod, assessorref46_Decimal.j0, if_neg (by decide), sf, Option.bind_some, if_neg hd0, nd, nf, Option.bind_some, if_pos sz1, nm]
  obtain ⟨k, rfl⟩ : ∃ m, k = m + 1 := ⟨k - 1, by clear sf nd nm nf rv; omega⟩
  by_cases hr : a.natAbs % den = 0
  · have hj0 : j = 0 := by
      rcases Nat.eq_zero_or_pos j with h | h
      · exact h
      · exfalso
        refine hj.2 0 h ?_
        rw [← hrd 0, hr, Nat.zero_mul]
        exact Nat.dvd_zero _
    subst hj0
    have hden : den = 1 := by have := hj.1; rw [Nat.pow_zero] at this; exact Nat.dvd_one.1 this
    subst hden
    have hn : ¬ (((a.natAbs % 1 : Nat) : Int) > 0) := by rw [hr]; decide
    rw [if_neg hn, assessorref46_Decimal.j1, B_app, l0 k (by clear sf nd nm nf rv; omega) _ (by rw [List.length_append]; omega)]
    rw [Dtx, if_pos rfl, hr, Nat.zero_mul, Nat.zero_div, pad_zero, List.append_nil, Nat.div_one]
  · have hp : ((a.natAbs % den : Nat) : Int) > 0 := by clear sf nd nm nf rv; omega
    have hj0 : ¬ j = 0 := by
      intro h
      subst h
      have hden : den = 1 := by have := hj.1; rw [Nat.pow_zero] at this; exact Nat.dvd_one.1 this
      subst hden
      exact hr (Nat.mod_one _)
    rw [if_pos hp, if_pos sz2, assessorref46_Decimal.j1, e46, B_app, B_app, l0 k (by clear sf nd nm nf rv; omega) _ (by rw [List.length_append, List.length_append, List.length_singleton]; omega)]
    rw [Dtx, if_neg hj0]
theorem refdec_no {k : Nat} (hk : 1000000010 < k) {a : Int} {d : Int} (h : ¬ (V a d ∧ d.natAbs ∣ 1000000)) : assessorref46_Decimal.f k a d = some (B [], false) := by
  have rv := refvalid_f (k := k) (by omega) a d
  obtain ⟨k, rfl⟩ : ∃ m, k = m + 1 := ⟨k - 1, by omega⟩
  have j0 : assessorref46_Decimal.j0 (k + 1) true a d = some (B [], false) := by rw [assessorref46_Decimal.j0, if_pos rfl, e00]
  by_cases hv : V a d
  · rw [decide_eq_true hv] at rv
    have h1 := hv.1
    have hd0 : ¬ d = 0 := by clear rv; omega
    have hm : ((1000000 : Int) % d != 0) = true := by
      rw [bne_iff_ne]
      intro e
      refine h ⟨hv, ?_⟩
      have : d ∣ 1000000 := Int.dvd_of_emod_eq_zero e
      have := Int.natAbs_dvd_natAbs.2 this
      exact this
    rw [assessorref46_Decimal.f, rv, Option.bind_some, if_pos rfl, if_neg hd0, hm, j0]
  · rw [decide_eq_false hv] at rv
    rw [assessorref46_Decimal.f, rv, Option.bind_some, if_neg (by decide), j0]
theorem pow_le6 {i : Nat} (h : i ≤ 6) : 10 ^ i ≤ 1000000 := by
  rw [show 1000000 = 10 ^ 6 from rfl]; exact Nat.pow_le_pow_right (by omega) h
theorem sgn_mul (a : Int) (c : Nat) (h : 1 ≤ c) : sgn (a * (c : Int)) = sgn a := by
  unfold sgn
  by_cases h0 : a < 0
  · have : a * (c : Int) < 0 := Int.mul_neg_of_neg_of_pos h0 (by omega)
    rw [if_pos h0, if_pos this]
  · have : ¬ a * (c : Int) < 0 := by
      have := Int.mul_nonneg (a := a) (b := (c : Int)) (by omega) (by omega)
      omega
    rw [if_neg h0, if_neg this]
/-- the loop over the powers, where none serves -/
theorem dec_no {a : Int} {den : Nat} (hd : 1 ≤ den) (hno : ∀ i, i ≤ 6 → ¬ den ∣ 10 ^ i) : ∀ (n i k : Nat), i + n = 7 → n < k → fraction_Decimal.l0 k ((10 ^ i : Nat) : Int) a (den : Int) = some (B [], false) := by
  intro n
  induction n with
  | zero =>
    intro i k hi hk
    obtain ⟨k, rfl⟩ : ∃ m, k = m + 1 := ⟨k - 1, by omega⟩
    obtain rfl : i = 7 := by omega
    have : ¬ (((10 ^ 7 : Nat) : Int) ≤ 1000000) := by decide
    rw [fraction_Decimal.l0, if_neg this, e00]
  | succ n ih =>
    intro i k hi hk
    obtain ⟨k, rfl⟩ : ∃ m, k = m + 1 := ⟨k - 1, by omega⟩
    have hp := pow_le6 (i := i) (by omega)
    have h1 : ((10 ^ i : Nat) : Int) ≤ 1000000 := by omega
    have hd0 : ¬ ((den : Nat) : Int) = 0 := by omega
    have hm : ¬ ((10 ^ i % den : Nat) : Int) = 0 := by
      intro e
      exact hno i (by omega) (Nat.dvd_of_mod_eq_zero (by omega))
    have := ih (i + 1) k (by omega) (by omega)
    have w : wrap64 (((10 ^ i : Nat) : Int) * 10) = ((10 ^ (i + 1) : Nat) : Int) := by
      rw [Nat.pow_succ]
      clear hm h1 this
      generalize 10 ^ i = P at *
      rw [w64 (by omega) (by omega)]
      omega
    rw [fraction_Decimal.l0, if_pos h1, if_neg hd0, natmod, if_neg hm, w, this]
/-- the loop over the powers, where 10^j is the least one that serves -/
theorem dec_yes {a : Int} {den j : Nat} (hv : V a den) (hj6 : j ≤ 6) (hj : Least den j) : ∀ (n i k : Nat), i + n = j → n + 2 < k → fraction_Decimal.l0 k ((10 ^ i : Nat) : Int) a (den : Int) = some (B (Dtx a den j), true) := by
  have hv' := hv
  obtain ⟨v1, v2, v3, v4, v5⟩ := hv
  intro n
  induction n with
  | zero =>
    intro i k hi hk
    obtain ⟨k, rfl⟩ : ∃ m, k = m + 1 := ⟨k - 1, by omega⟩
    obtain rfl : i = j := by omega
    have hp := pow_le6 hj6
    have h1 : ((10 ^ i : Nat) : Int) ≤ 1000000 := by omega
    have hd0 : ¬ ((den : Nat) : Int) = 0 := by omega
    have hm : ((10 ^ i % den : Nat) : Int) = 0 := by rw [Nat.mod_eq_zero_of_dvd hj.1]; rfl
    rw [fraction_Decimal.l0, if_pos h1, if_neg hd0, natmod, if_pos hm]
    by_cases h0 : i = 0
    · subst h0
      have ho : ((10 ^ 0 : Nat) : Int) = 1 := rfl
      have it := itoa_f (n := a) (by omega) (by omega)
      rw [if_pos ho, it, Option.bind_some, Dtx, if_pos rfl]
    · have h10 : 10 ≤ 10 ^ i := by
        have := Nat.pow_le_pow_right (n := 10) (by omega) (show 1 ≤ i by omega)
        omega
      have ho : ¬ ((10 ^ i : Nat) : Int) = 1 := by omega
      obtain ⟨c, hc⟩ := hj.1
      have hc1 : 1 ≤ c := by
        rcases Nat.eq_zero_or_pos c with h | h
        · subst h; rw [Nat.mul_zero] at hc; omega
        · exact h
      have hcle : c ≤ 1000000 := by
        have := Nat.le_mul_of_pos_left c (show 0 < den by omega)
        omega
      have e1 : 10 ^ i / den = c := by rw [hc]; exact Nat.mul_div_cancel_left c (by omega)
      have pb := prod_bound (x := a) (y := (c : Int)) (X := 1000000000) (Y := 1000000) (by omega) (by omega) (by omega) (by omega)
      have pf := point_f (k := k) (by omega) (a * (c : Int)) (10 ^ i) (by omega) (by omega) (by omega) (by omega)
      have na : (a * (c : Int)).natAbs = a.natAbs * c := by rw [Int.natAbs_mul, Int.natAbs_natCast]
      rw [na, sgn_mul a c hc1] at pf
      have q1 : a.natAbs * c / 10 ^ i = a.natAbs / den := by rw [hc, Nat.mul_div_mul_right _ _ (by omega)]
      have q2 : a.natAbs * c % 10 ^ i = a.natAbs % den * c := by rw [hc, Nat.mul_mod_mul_right]
      have q3 : a.natAbs % den * 10 ^ i / den = a.natAbs % den * c := by
        rw [hc, show a.natAbs % den * (den * c) = den * (a.natAbs % den * c) by grind, Nat.mul_div_cancel_left _ (by omega)]
      have nd : wrap64 (Int.tdiv ((10 ^ i : Nat) : Int) (den : Int)) = (c : Int) := by rw [natdiv _ _ (by omega), e1]
      have w : wrap64 (a * (c : Int)) = a * (c : Int) := by clear nd pf; exact w64 (by omega) (by omega)
      rw [if_neg ho, nd, w, pf, Option.bind_some, q1, q2, Dtx, if_neg h0, q3]
      rfl
  | succ n ih =>
    intro i k hi hk
    obtain ⟨k, rfl⟩ : ∃ m, k = m + 1 := ⟨k - 1, by omega⟩
    have hp := pow_le6 (i := i) (by omega)
    have h1 : ((10 ^ i : Nat) : Int) ≤ 1000000 := by omega
    have hd0 : ¬ ((den : Nat) : Int) = 0 := by omega
    have hm : ¬ ((10 ^ i % den : Nat) : Int) = 0 := by
      intro e
      exact hj.2 i (by omega) (Nat.dvd_of_mod_eq_zero (by omega))
    have := ih (i + 1) k (by omega) (by omega)
    have w : wrap64 (((10 ^ i : Nat) : Int) * 10) = ((10 ^ (i + 1) : Nat) : Int) := by
      rw [Nat.pow_succ]
      clear hm h1 this
      generalize 10 ^ i = P at *
      rw [w64 (by omega) (by omega)]
      omega
    rw [fraction_Decimal.l0, if_pos h1, if_neg hd0, natmod, if_neg hm, w, this]
theorem decimal_no {k : Nat} (hk : 1000000010 < k) {a d : Int} (h : ¬ (V a d ∧ d.natAbs ∣ 1000000)) : fraction_Decimal.f k a d = some (B [], false) := by
  have rv := valid_f (k := k) (by omega) a d
  by_cases hv : V a d
  · rw [decide_eq_true hv] at rv
    have h1 := hv.1
    obtain ⟨den, rfl⟩ : ∃ v : Nat, d = v := ⟨d.natAbs, by clear rv; omega⟩
    have hno : ∀ i, i ≤ 6 → ¬ den ∣ 10 ^ i := by
      intro i hi hd
      refine h ⟨hv, ?_⟩
      rw [Int.natAbs_natCast, show 1000000 = 10 ^ 6 from rfl]
      exact Nat.dvd_trans hd (Nat.pow_dvd_pow 10 hi)
    have := dec_no (a := a) (by omega) hno 7 0 k (by omega) (by omega)
    rw [fraction_Decimal.f, rv, Option.bind_some, if_pos rfl]
    exact this
  · rw [decide_eq_false hv] at rv
    rw [fraction_Decimal.f, rv, Option.bind_some, if_neg (by decide), e00]
theorem decimal_f {k : Nat} (hk : 1000000010 < k) {a : Int} {den j : Nat} (hv : V a den) (hj6 : j ≤ 6) (hj : Least den j) : fraction_Decimal.f k a den = some (B (Dtx a den j), true) := by
  have rv := valid_f (k := k) (by omega) a (den : Int)
  rw [decide_eq_true hv] at rv
  have := dec_yes hv hj6 hj j 0 k (by omega) (by omega)
  rw [fraction_Decimal.f, rv, Option.bind_some, if_pos rfl]
  exact this
/-- both texts are the same -/
theorem decimals {k : Nat} (hk : 1000000010 < k) (a d : Int) : ∃ s b, fraction_Decimal.f k a d = some (s, b) ∧ assessorref46_Decimal.f k a d = some (s, b) := by
  by_cases h : V a d ∧ d.natAbs ∣ 1000000
  · obtain ⟨hv, hd⟩ := h
    have h1 := hv.1
    obtain ⟨den, rfl⟩ : ∃ v : Nat, d = v := ⟨d.natAbs, by omega⟩
    rw [Int.natAbs_natCast, show 1000000 = 10 ^ 6 from rfl] at hd
    obtain ⟨j, hj6, hj⟩ := least_exists den hd
    exact ⟨_, _, decimal_f hk hv hj6 hj, refdec_f hk hv hj6 hj⟩
  · exact ⟨_, _, decimal_no hk h, refdec_no hk h⟩
end Go.Proofs.YtkfibjmjamdigaaDoor.Q
/- What the reference's reduction returns. -/
namespace Go.Proofs.YtkfibjmjamdigaaDoor.Q
set_option linter.unusedVariables false
open Go.RowKit Go.Proofs.YtkfibjmjamdigaaDoorW.PrintWords Go.Proofs.YtkfibjmjamdigaaDoorW.PrintLast Go.Proofs.YtkfibjmjamdigaaDoorW.PrintMore
def refTail (n d t : Int) : Option (Int × Int × Int) := if t = 0 then none else (if (wrap64 (Int.tdiv n t)) < (-1000000000) then (some (0, 0, 2)) else (if (wrap64 (Int.tdiv n t)) > 1000000000 then (some (0, 0, 2)) else (if (wrap64 (Int.tdiv d t)) > 1000000 then (some (0, 0, 2)) else (some (wrap64 (Int.tdiv n t), wrap64 (Int.tdiv d t), 0)))))
theorem refTail_red {n d g : Int} (hd : 1 ≤ d) (hn1 : -4611686018427387904 ≤ n) (hn2 : n ≤ 4611686018427387904) (hd2 : d ≤ 4611686018427387904) (hg : g = ((Nat.gcd n.natAbs d.natAbs : Nat) : Int)) :
    ∃ r1 r2 r3, refTail n d g = some (r1, r2, r3) ∧ Red n d r1 r2 r3 := by
  obtain ⟨h1, _, _, h4, h5, h6, h7⟩ := red_pos hd hg
  obtain ⟨a, b⟩ := red_of hd hg
  have w1 : wrap64 (Int.tdiv n g) = Int.tdiv n g := w64 (by omega) (by omega)
  have w2 : wrap64 (Int.tdiv d g) = Int.tdiv d g := w64 (by omega) (by omega)
  have h0 : ¬ g = 0 := by clear w1 w2; omega
  rw [refTail, if_neg h0, w1, w2]
  clear w1 w2
  generalize Int.tdiv n g = x at *
  generalize Int.tdiv d g = y at *
  by_cases c1 : x < -1000000000
  · rw [if_pos c1]; exact ⟨_, _, _, rfl, b (fun hv => by have := hv.2.2.1; omega)⟩
  · by_cases c2 : x > 1000000000
    · rw [if_neg c1, if_pos c2]; exact ⟨_, _, _, rfl, b (fun hv => by have := hv.2.2.2.1; omega)⟩
    · by_cases c3 : y > 1000000
      · rw [if_neg c1, if_neg c2, if_pos c3]; exact ⟨_, _, _, rfl, b (fun hv => by have := hv.2.1; omega)⟩
      · rw [if_neg c1, if_neg c2, if_neg c3]; exact ⟨_, _, _, rfl, a ⟨h4, by omega, by omega, by omega, h5⟩⟩
theorem refreduce_red {k : Nat} {n d : Int} (hd : d ≠ 0) (hn1 : -4611686018427387904 ≤ n) (hn2 : n ≤ 4611686018427387904) (hd1 : -4611686018427387904 ≤ d) (hd2 : d ≤ 4611686018427387904) (hk : 4611686018427387909 < k) :
    ∃ r1 r2 r3, assessorref46_reduce.f k n d = some (r1, r2, r3) ∧ Red n d r1 r2 r3 := by
  by_cases h : d < 0
  · obtain ⟨r1, r2, r3, e, hr⟩ := refTail_red (n := -n) (d := -d) (by omega) (by omega) (by omega) (by omega) rfl
    have g := refgcd_f (k := k) (a := -n) (b := -d) (by omega) (by omega) (by omega) (by omega)
    have w1 : wrap64 (-n) = -n := w64 (by omega) (by omega)
    have w2 : wrap64 (-d) = -d := w64 (by omega) (by omega)
    refine ⟨r1, r2, r3, ?_, hr.neg⟩
    rw [assessorref46_reduce.f, if_pos h, w1, w2, g, Option.bind_some]
    exact e
  · obtain ⟨r1, r2, r3, e, hr⟩ := refTail_red (n := n) (d := d) (by omega) (by omega) (by omega) (by omega) rfl
    have g := refgcd_f (k := k) (a := n) (b := d) (by omega) (by omega) (by omega) (by omega)
    refine ⟨r1, r2, r3, ?_, hr⟩
    rw [assessorref46_reduce.f, if_neg h, g, Option.bind_some]
    exact e
theorem reductions {k : Nat} {n d : Int} (hd : d ≠ 0) (hn1 : -4611686018427387904 ≤ n) (hn2 : n ≤ 4611686018427387904) (hd1 : -4611686018427387904 ≤ d) (hd2 : d ≤ 4611686018427387904) (hk : 4611686018427387909 < k) :
    ∃ r, fraction_reduced.f k n d = some r ∧ assessorref46_reduce.f k n d = some r := by
  obtain ⟨r1, r2, r3, e, hr⟩ := reduced_red hd hn1 hn2 hd1 hd2 hk
  obtain ⟨s1, s2, s3, e', hs⟩ := refreduce_red hd hn1 hn2 hd1 hd2 hk
  obtain ⟨rfl, rfl, rfl⟩ := hr.unique hd hs
  exact ⟨_, e, e'⟩
theorem makes {k : Nat} (hk : 4611686018427387909 < k) (n d : Int) : ∃ r, fraction_Make.f k n d = some r ∧ assessorref46_Make.f k n d = some r := by
  unfold fraction_Make.f assessorref46_Make.f ins
  by_cases h0 : d = 0
  · rw [if_pos h0, if_pos h0]; exact ⟨_, rfl, rfl⟩
  · rw [if_neg h0, if_neg h0]
    by_cases h1 : n < -1000000000000000
    · rw [if_pos h1, if_neg (by simp; omega)]; exact ⟨_, rfl, rfl⟩
    · by_cases h2 : n > 1000000000000000
      · rw [if_neg h1, if_pos h2, if_neg (by simp; omega)]; exact ⟨_, rfl, rfl⟩
      · rw [if_neg h1, if_neg h2, if_pos (by simp; omega)]
        by_cases h3 : d < -1000000000000000
        · rw [if_pos h3, if_neg (by simp; omega)]; exact ⟨_, rfl, rfl⟩
        · by_cases h4 : d > 1000000000000000
          · rw [if_neg h3, if_pos h4, if_neg (by simp; omega)]; exact ⟨_, rfl, rfl⟩
          · rw [if_neg h3, if_neg h4, if_pos (by simp; omega)]
            obtain ⟨r, e1, e2⟩ := reductions (k := k) h0 (n := n) (by omega) (by omega) (by omega) (by omega) hk
            exact ⟨r, e1, by rw [e2]; rfl⟩
end Go.Proofs.YtkfibjmjamdigaaDoor.Q
/- FractionForms, about numbers and texts alone. -/
namespace Go.Proofs.YtkfibjmjamdigaaDoor.Q
open Go.RowKit Go.Proofs.YtkfibjmjamdigaaDoorW.PrintWords Go.Proofs.YtkfibjmjamdigaaDoorW.PrintLast Go.Proofs.YtkfibjmjamdigaaDoorW.PrintMore
theorem pure_FractionForms (a b n d : Int) (_ha : (Lit.int .i64 a).wf = true) (_hb : (Lit.int .i64 b).wf = true) (_hn : (Lit.int .i64 n).wf = true) (_hd : (Lit.int .i64 d).wf = true) : ∃ k, assessorlaw46_FractionForms.f k a b n d = some true := by
  refine ⟨4611686018427387990, ?_⟩
  generalize hK : (4611686018427387990 : Nat) = k
  have hk : 4611686018427387930 < k := by omega
  clear hK
  obtain ⟨r, m1, m2⟩ := makes (k := k) (by omega) n d
  obtain ⟨s, t, d1, d2⟩ := decimals (k := k) (by omega) a b
  have aw := awake_true (k := k) (by omega)
  have v1 := valid_f (k := k) (by omega) a b
  have v2 := refvalid_f (k := k) (by omega) a b
  have f1 := format_f (k := k) (by omega) a b
  have f2 := refformat_f (k := k) (by omega) a b
  have p1 := points_f (k := k) (by omega) n
  have p2 := refpoints_f (k := k) (by omega) n
  rw [assessorlaw46_FractionForms.f, aw, Option.bind_some, if_pos rfl, m1, Option.bind_some, m2, Option.bind_some, d1, Option.bind_some, d2, Option.bind_some, v1, Option.bind_some, v2, Option.bind_some]
  rw [if_pos (by simp), if_pos (by simp), if_pos rfl, f1, Option.bind_some, f2, Option.bind_some, if_pos rfl, if_pos rfl, if_pos (by simp), p1, Option.bind_some, p2, Option.bind_some]
  simp
end Go.Proofs.YtkfibjmjamdigaaDoor.Q
/- Whatever the input: FractionForms returns true, and the input reads afterwards as it read before (the row lists three tables of the library; the card ties them to the program's text). No further condition. -/
namespace Go.Proofs.YtkfibjmjamdigaaDoor.fractionForms
open Go.ChangeShapes Go.WideShapes Go.ChangeAt Go.RowKit Go.Proofs.YtkfibjmjamdigaaDoor.Q
open Go.ChangeMaps (open_string shut_string)
open Go.Joins (open_agg2)
set_option linter.unusedVariables false
theorem cells23 : Tryd.prog.cellsOf 23 = 2 := by kernel_rfl
set_option maxRecDepth 100000 in
theorem contract (H : Type) (enc : TypeId × Value → H) (W : World) (base : Nat) (args : Array Value) (ds gs : List (DataW H)) (before : List MemPlace)
    (hval : ∀ (j : Nat) t v, Tryd.f3.params[j]? = some t → args[j]? = some v → Value.okWide Tryd.prog W .any base t v)
    (hW : DataW.Whole enc Tryd.prog Tryd.f3.params.toList Rows.fractionFormsSpec.vars false W args.toList ds gs before) (hL : laidMetH Tryd.prog Rows.fractionFormsRow.laid W) :
    Calls Tryd.prog 3 args W fun e W' => ∃ v, e = .returned v ∧ Rows.fractionFormsSpec.post enc Tryd.prog Tryd.f3 false true false false W args v W' := by
  have hW' := hW
  obtain ⟨p, q, hA0, hV, rfl, hfz, hnd⟩ := hW
  have hA : DataW.TrodAll enc Tryd.prog W 0 (fun _ => true) true Tryd.f3.params.toList args.toList ds p := hA0
  rw [Tryd.params3] at hA hval
  obtain ⟨v0, vs0, d0, ds0, p0, q0, hargs, rfl, rfl, h0, r0⟩ := trodAll_cons hA
  obtain ⟨v1, vs1, d1, ds1, p1, q1, rfl, rfl, rfl, h1, r1⟩ := trodAll_cons r0
  obtain ⟨v2, vs2, d2, ds2, p2, q2, rfl, rfl, rfl, h2, r2⟩ := trodAll_cons r1
  obtain ⟨rfl, rfl, rfl⟩ := trodAll_nil r2
  obtain rfl : args = #[v0, v1, v2] := by cases args; simp_all
  obtain ⟨rfl, rfl⟩ := trodVars_none hV
  have k0 := h0
  have lt0 : ∀ x ∈ p0, x.block < W.heap.size := by obtain ⟨m, hm⟩ := k0; exact DataW.trod_lt m _ _ _ hm
  obtain ⟨c0, e0, y0, z0, m0, rfl, hd0, hp0, hy0, hz0⟩ := open_agg2 Tryd.underlying23 (by kernel_rfl) cells23 (hval 0 23 v0 rfl rfl) h0
  obtain ⟨a0, g0, _, wa0⟩ := DataW.trod_int Tryd.underlying3 hy0
  obtain ⟨b0, l0, _, wb0⟩ := DataW.trod_int Tryd.underlying3 hz0
  simp only [List.cons.injEq, and_true] at g0 l0
  subst g0 l0
  have k1 := h1
  have lt1 : ∀ x ∈ p1, x.block < W.heap.size := by obtain ⟨m, hm⟩ := k1; exact DataW.trod_lt m _ _ _ hm
  obtain ⟨a1, rfl, _, _, wa1⟩ := open_int Tryd.underlying3 (hval 1 3 v1 rfl rfl) h1
  have k2 := h2
  have lt2 : ∀ x ∈ p2, x.block < W.heap.size := by obtain ⟨m, hm⟩ := k2; exact DataW.trod_lt m _ _ _ hm
  obtain ⟨a2, rfl, _, _, wa2⟩ := open_int Tryd.underlying3 (hval 2 3 v2 rfl rfl) h2
  obtain ⟨k, hk⟩ := pure_FractionForms a0 b0 a1 a2 wa0 wb0 wa1 wa2
  refine (assessorlaw46_FractionForms.calls k a0 b0 a1 a2 true W ⟨rfl⟩ (tab_of_laid hL) hk).mono fun e W' ⟨he, bel⟩ => ?_
  subst he
  exact ⟨_, rfl, _, _, _, [], _, [], hW', trodAll_mk1 (shut_bool Tryd.underlying4 _), (trodAll_cons_mk (Below.trod laidOut (by kernel_rfl) (of_decide_eq_true (by kernel_rfl)) k0 bel lt0) (trodAll_cons_mk (Below.trod laidOut (by kernel_rfl) (of_decide_eq_true (by kernel_rfl)) k1 bel lt1) (trodAll_cons_mk (Below.trod laidOut (by kernel_rfl) (of_decide_eq_true (by kernel_rfl)) k2 bel lt2) trodAll_mk0))), rfl, bel.frame _, fun h => by cases h⟩
theorem reads (os : Os) {H : Type} (enc : TypeId × Value → H) : ∃ places, DataW.whole enc Tryd.prog ((laidWorld os).forCall (fun _ _ => 0) ⟨#[], #[Value.agg #[.int .i64 0, .int .i64 0], Value.int .i64 0, Value.int .i64 0], []⟩).memory Tryd.f3.params.toList Rows.fractionFormsSpec.vars false (#[Value.agg #[.int .i64 0, .int .i64 0], Value.int .i64 0, Value.int .i64 0] : Array Value).toList 8 = some ([DataW.agg [.lit (.int .i64 0), .lit (.int .i64 0)], DataW.lit (.int .i64 0), DataW.lit (.int .i64 0)], [], places) :=
  ⟨[], by kernel_rfl⟩
set_option maxRecDepth 100000 in
theorem lifted (os : Os) (started : os.Started) (H : Type) (enc : TypeId × Value → H) (F : Stop.Interp) :
    ReturnsInHanded {} Tryd.checked os 3 .any ((OpenSpec.ofChange Rows.fractionFormsSpec).preRow enc Tryd.prog Tryd.f3 Rows.fractionFormsRow.domain false Rows.fractionFormsRow.laid) (((OpenSpec.ofChange Rows.fractionFormsSpec).at F).post enc Tryd.prog Tryd.f3 false true false false) := by
  obtain ⟨places, hx⟩ := reads os enc
  refine returnsInHanded_of_row (C := Tryd.checked) (s := OpenSpec.ofChange Rows.fractionFormsSpec) own started (by kernel_rfl) Tryd.func3
    (witness_row_at (enc := enc) (C := Tryd.checked) false (laidWorld os) #[Value.agg #[.int .i64 0, .int .i64 0], Value.int .i64 0, Value.int .i64 0] rfl (by kernel_rfl) (by kernel_rfl) (by kernel_rfl)
      (OpenSpec.preRow_of_cond 8 hx (by kernel_rfl) (fun k hk => by cases hk) (by kernel_rfl) (laid_met os _))) ?_
  intro W base args ds gs before hval hW _ _ _ hL _ _
  exact contract H enc W base args ds gs before hval hW hL
theorem said : Rows.FractionFormsSaid :=
  OpenClaim.holds_of_cond 3 Tryd.f3 rfl rfl rfl rfl rfl rfl rfl ⟨rfl, rfl, rfl, rfl, rfl⟩ rfl rfl rfl rfl rfl (by kernel_rfl) Tryd.func3 (by kernel_rfl)
    (of_decide_eq_true (by kernel_rfl)) (by unfold Func.isWrapper; first | (rw [if_pos (by decide +kernel)]; kernel_rfl) | (rw [if_neg (by decide +kernel)]; exact ⟨rfl, rfl⟩))
    (fun os started H enc _ F => by rw [OpenClaim.pre_eq_preRow]; exact lifted os started H enc F)
theorem plain (f : FuncId) (fn : Func) (hf : Tryd.pinned.checked.prog.funcNamed "assessor/assessorlaw46.FractionForms" = some f) (hfn : Tryd.pinned.checked.prog.funcs[f]? = some fn) :
    true = Tryd.pinned.checked.prog.looks [] ∧ ∀ (j : Nat) t, fn.params[j]? = some t → Tryd.pinned.checked.prog.wantsStandIn t = false := by
  obtain rfl : f = 3 := Option.some.inj ((show Tryd.prog.funcNamed "assessor/assessorlaw46.FractionForms" = some 3 by kernel_rfl).symm.trans hf) |>.symm
  obtain rfl : fn = Tryd.f3 := (Option.some.inj (Tryd.func3.symm.trans hfn)).symm
  refine ⟨by kernel_rfl, fun j t ht => ?_⟩
  rw [Tryd.params3] at ht
  have hm : t ∈ [3, 23] := by have h := Array.mem_of_getElem? ht; simp at h ⊢; first | omega | grind
  have hall : ([3, 23].all fun u => !Tryd.prog.wantsStandIn u) = true := by kernel_rfl
  exact (show Tryd.prog.wantsStandIn t = false by simpa using List.all_eq_true.1 hall t hm)
theorem card : Rows.FractionFormsCardSaid :=
  Claim7.holds_tied_plain_at .later [] _ _ _ _ said (fun _ h => by cases h) (by kernel_rfl) (fun _ h => by cases h) fractionForms_row_tie rfl ⟨rfl, rfl⟩ (by kernel_rfl) rfl plain (by kernel_rfl)
end Go.Proofs.YtkfibjmjamdigaaDoor.fractionForms
namespace Go.Proofs.YtkfibjmjamdigaaDoor
/-- The card, under a short name, for the claim. -/
theorem fractionForms_card_holds : Rows.FractionFormsCardSaid := fractionForms.card
#print axioms fractionForms_card_holds
end Go.Proofs.YtkfibjmjamdigaaDoor
