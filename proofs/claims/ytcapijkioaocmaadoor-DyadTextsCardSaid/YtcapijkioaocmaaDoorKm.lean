/-
  Lemmas for the proof of the statement of this claim: a part of the road, no statement of its own. Conditions: those that each lemma names.
-/
import Derived.Lib.TrailingZeros
section
/-
  Dyadic fractions, plainly.
-/
namespace Go.Dy

/-- A pair without its factors of two, at most e of them. -/
def strip : Nat → Int → Int × Nat
  | 0, n => (n, 0)
  | e + 1, n => if n % 2 = 0 then strip e (n / 2) else (n, e + 1)

def validB (n e : Int) : Bool := decide (0 ≤ e ∧ e ≤ 30 ∧ -1099511627776 ≤ n ∧ n ≤ 1099511627776 ∧ (e = 0 ∨ n % 2 = 1))
def Valid (n : Int) (e : Nat) : Prop := e ≤ 30 ∧ -1099511627776 ≤ n ∧ n ≤ 1099511627776 ∧ (e = 0 ∨ n % 2 = 1)

/-- What Make gives: numerator, exponent, error. -/
def made (n e : Int) : Int × Int × Int :=
  if e < 0 ∨ 62 < e then (0, 0, 190) else
  if validB (strip e.toNat n).1 (strip e.toNat n).2 then ((strip e.toNat n).1, ((strip e.toNat n).2 : Int), 0) else (0, 0, 190)

/-- The whole part; what is left, in parts of 2^30. -/
def wh (n : Int) (e : Nat) : Int := n / 2 ^ e
def rs (n : Int) (e : Nat) : Int := (n % 2 ^ e) * 2 ^ (30 - e)

def cmpI (a b : Int) : Int := if a < b then -1 else if b < a then 1 else 0
def cmpF (n : Int) (e : Nat) (m : Int) (f : Nat) : Int := if cmpI (wh n e) (wh m f) ≠ 0 then cmpI (wh n e) (wh m f) else cmpI (rs n e) (rs m f)

def addF (n : Int) (e : Nat) (m : Int) (f : Nat) : Int × Int × Int :=
  let t := rs n e + rs m f
  let w := wh n e + wh m f + t / 1073741824
  let p := strip 30 (t % 1073741824)
  if 1099511627776 / 2 ^ p.2 < w ∨ w < -(1099511627776 / 2 ^ p.2) - 1 then (0, 0, 190) else made (w * 2 ^ p.2 + p.1) p.2

theorem strip_le : ∀ (e : Nat) (n : Int), (strip e n).2 ≤ e
  | 0, n => Nat.le_refl _
  | e + 1, n => by
    unfold strip
    split
    · have := strip_le e (n / 2); omega
    · exact Nat.le_refl _
theorem strip_abs : ∀ (e : Nat) (n B : Int), -B ≤ n → n ≤ B → 0 ≤ B → -B ≤ (strip e n).1 ∧ (strip e n).1 ≤ B
  | 0, n, B, h1, h2, _ => ⟨h1, h2⟩
  | e + 1, n, B, h1, h2, h3 => by
    unfold strip
    split
    · exact strip_abs e (n / 2) B (by omega) (by omega) h3
    · exact ⟨h1, h2⟩
theorem strip_odd : ∀ (e : Nat) (n : Int), (strip e n).2 = 0 ∨ (strip e n).1 % 2 = 1
  | 0, n => .inl rfl
  | e + 1, n => by
    unfold strip
    split
    · exact strip_odd e (n / 2)
    · right; show n % 2 = 1; omega
theorem strip_of_odd (e : Nat) (n : Int) (h : e = 0 ∨ n % 2 = 1) : strip e n = (n, e) := by
  cases e with
  | zero => rfl
  | succ e => unfold strip; rw [if_neg (by omega)]
theorem strip_mul : ∀ (k e : Nat) (n : Int), strip (e + k) (n * 2 ^ k) = strip e n
  | 0, e, n => by simp
  | k + 1, e, n => by
    show strip (e + k + 1) (n * 2 ^ (k + 1)) = _
    have h1 : n * 2 ^ (k + 1) = (n * 2 ^ k) * 2 := by rw [Int.pow_succ, Int.mul_assoc]
    have h2 : strip (e + k + 1) (n * 2 ^ (k + 1)) = if (n * 2 ^ (k + 1)) % 2 = 0 then strip (e + k) (n * 2 ^ (k + 1) / 2) else (n * 2 ^ (k + 1), e + k + 1) := rfl
    rw [h2, if_pos (by rw [h1]; omega), h1, Int.mul_ediv_cancel _ (by decide : (2 : Int) ≠ 0)]
    exact strip_mul k e n
theorem strip_zero : ∀ e : Nat, strip e 0 = (0, 0)
  | 0 => rfl
  | e + 1 => by unfold strip; simp [strip_zero e]
/-- The value is kept. -/
theorem strip_val : ∀ (e : Nat) (n : Int), (strip e n).1 * 2 ^ (e - (strip e n).2) = n
  | 0, n => by simp [strip]
  | e + 1, n => by
    unfold strip
    split
    · rename_i h
      have ih := strip_val e (n / 2)
      have hl := strip_le e (n / 2)
      rw [show e + 1 - (strip e (n / 2)).2 = (e - (strip e (n / 2)).2) + 1 by omega, Int.pow_succ, ← Int.mul_assoc, ih]
      omega
    · simp

theorem tmod2 (n : Int) : n.tmod 2 = 0 ↔ n % 2 = 0 :=
  ⟨fun h => Int.emod_eq_zero_of_dvd (Int.dvd_of_tmod_eq_zero h), fun h => Int.tmod_eq_zero_of_dvd (Int.dvd_of_emod_eq_zero h)⟩
theorem tdiv2 (n : Int) (h : n % 2 = 0) : n.tdiv 2 = n / 2 := Int.tdiv_eq_ediv_of_dvd (Int.dvd_of_emod_eq_zero h)
theorem tdiv_floor (n p : Int) (hp : 0 < p) : (if n.tmod p < 0 then n.tdiv p - 1 else n.tdiv p) = n / p ∧ (if n.tmod p < 0 then n.tmod p + p else n.tmod p) = n % p := by
  have h1 := Int.mul_tdiv_add_tmod n p
  have h2 : n.tmod p < p := Int.tmod_lt_of_pos n hp
  have h3 : -p < n.tmod p := by
    have h4 := Int.tmod_lt_of_pos (-n) hp
    rw [Int.neg_tmod] at h4
    omega
  generalize n.tdiv p = q at *
  generalize n.tmod p = r at *
  split
  · rename_i hr
    have e : n = (r + p) + p * (q - 1) := by rw [Int.mul_sub, Int.mul_one]; omega
    constructor
    · rw [e, Int.add_mul_ediv_left _ _ (by omega), Int.ediv_eq_zero_of_lt (by omega) (by omega)]; omega
    · rw [e, Int.add_mul_emod_self_left, Int.emod_eq_of_lt (by omega) (by omega)]
  · rename_i hr
    have e : n = r + p * q := by omega
    constructor
    · rw [e, Int.add_mul_ediv_left _ _ (by omega), Int.ediv_eq_zero_of_lt (by omega) (by omega)]; omega
    · rw [e, Int.add_mul_emod_self_left, Int.emod_eq_of_lt (by omega) (by omega)]

theorem two_pow_pos (n : Nat) : (0 : Int) < 2 ^ n := Int.pow_pos (by decide)
theorem two_pow_le {m n : Nat} (h : m ≤ n) : (2 : Int) ^ m ≤ 2 ^ n := by exact_mod_cast Nat.pow_le_pow_right (by decide) h
theorem rs_bd (n : Int) (e : Nat) (he : e ≤ 30) : 0 ≤ rs n e ∧ rs n e < 1073741824 := by
  unfold rs
  have h1 : 0 ≤ n % 2 ^ e := Int.emod_nonneg _ (by have := two_pow_pos e; omega)
  have h2 : n % 2 ^ e < 2 ^ e := Int.emod_lt_of_pos _ (two_pow_pos e)
  have h3 : (2 : Int) ^ e * 2 ^ (30 - e) = 1073741824 := by
    rw [← Int.pow_add, show e + (30 - e) = 30 by omega]; decide
  have hp := two_pow_pos (30 - e)
  constructor
  · exact Int.mul_nonneg h1 (Int.le_of_lt hp)
  · rw [← h3]; exact Int.mul_lt_mul_of_pos_right h2 hp
theorem wh_bd (n : Int) (e : Nat) (B : Int) (h : -B ≤ n) (h' : n ≤ B) (hB : 0 ≤ B) : -B ≤ wh n e ∧ wh n e ≤ B := by
  unfold wh
  have hp := two_pow_pos e
  constructor
  · refine (Int.le_ediv_iff_mul_le hp).2 ?_
    have : -B * 2 ^ e ≤ -B * 1 := Int.mul_le_mul_of_nonpos_left (by omega) (by omega)
    omega
  · have h1 : n / 2 ^ e ≤ B / 2 ^ e := Int.ediv_le_ediv hp h'
    have h2 := Int.ediv_le_self (2 ^ e) hB
    omega
theorem made_of {n m : Int} {k x : Nat} (hk : k ≤ 62) (hs : strip k n = (m, x)) : made n k = if validB m x = true then (m, (x : Int), 0) else (0, 0, 190) := by
  unfold made
  rw [if_neg (by omega), Int.toNat_natCast, hs]
theorem made_out {n e : Int} (h : e < 0 ∨ 62 < e) : made n e = (0, 0, 190) := by
  unfold made; rw [if_pos h]
attribute [irreducible] made strip addF cmpF cmpI wh rs validB
end Go.Dy
end

section
/-
  The trailing zeros of an int, plainly.
-/
set_option linter.unusedVariables false
namespace Go.Dy
open Go
theorem ctz_spec (x : Nat) (h0 : 0 < x) (hx : x < 18446744073709551616) : ∃ m, x = 2 ^ Lib.ctz 64 x * (2 * m + 1) ∧ Lib.ctz 64 x < 64 := by
  have e64 : (2 : Nat) ^ 64 = 18446744073709551616 := by decide
  have := Lib.ctzFrom_spec 64 x h0 (by rw [e64]; exact hx)
  unfold Lib.ctz
  first
    | exact this
    | (rw [if_neg (by omega)]; exact this)
/-- Trailing zeros of an int, as its 64 bits have them. -/
def tz (n : Int) : Nat := Lib.ctz 64 (n % 18446744073709551616).toNat
theorem tz_spec (n : Int) (h0 : n ≠ 0) (h1 : -9223372036854775808 ≤ n) (h2 : n ≤ 9223372036854775807) : ∃ o : Int, n = o * 2 ^ tz n ∧ o % 2 = 1 ∧ tz n < 64 := by
  have hu : 0 < (n % 18446744073709551616).toNat ∧ (n % 18446744073709551616).toNat < 18446744073709551616 := by omega
  obtain ⟨m, hm, hc⟩ := ctz_spec _ hu.1 hu.2
  unfold tz
  generalize hcc : Lib.ctz 64 (n % 18446744073709551616).toNat = c at *
  have hm' : n % 18446744073709551616 = 2 ^ c * (2 * (m : Int) + 1) := by
    have : ((n % 18446744073709551616).toNat : Int) = ((2 ^ c * (2 * m + 1) : Nat) : Int) := by rw [← hm]
    rw [Int.toNat_of_nonneg (by omega)] at this
    rw [this]
    simp
  have hp : (2 : Int) ^ c * (2 * 2 ^ (63 - c)) = 18446744073709551616 := by
    rw [← Int.mul_assoc, Int.mul_comm (2 ^ c) 2, Int.mul_assoc, ← Int.pow_add, show c + (63 - c) = 63 by omega]
    decide
  have hd := Int.mul_ediv_add_emod n 18446744073709551616
  refine ⟨2 * (2 ^ (63 - c) * (n / 18446744073709551616)) + (2 * m + 1), ?_, by omega, hc⟩
  rw [Int.add_mul, Int.mul_comm _ (2 ^ c), Int.mul_comm _ (2 ^ c), ← hm']
  rw [← Int.mul_assoc, ← Int.mul_assoc, Int.mul_assoc (2 ^ c), hp]
  omega
theorem tz_lt (n : Int) (h0 : 0 < n) (h1 : n < 1073741824) : tz n < 30 := by
  obtain ⟨o, ho, hodd, hc⟩ := tz_spec n (by omega) (by omega) (by omega)
  rcases Nat.lt_or_ge (tz n) 30 with h | h
  · exact h
  · exfalso
    have h2 : (2 : Int) ^ 30 ≤ 2 ^ tz n := two_pow_le h
    have h3 := two_pow_pos (tz n)
    rw [show (2 : Int) ^ 30 = 1073741824 by decide] at h2
    generalize (2 : Int) ^ tz n = p at *
    rcases Int.lt_or_le o 1 with h4 | h4
    · have : o * p ≤ 0 * p := Int.mul_le_mul_of_nonneg_right (by omega) (by omega)
      omega
    · have : 1 * p ≤ o * p := Int.mul_le_mul_of_nonneg_right h4 (by omega)
      omega
theorem strip_tz (n : Int) (e : Nat) (h0 : n ≠ 0) (h1 : -9223372036854775808 ≤ n) (h2 : n ≤ 9223372036854775807) : strip e n = (n / 2 ^ (min e (tz n)), e - min e (tz n)) := by
  obtain ⟨o, ho, hodd, hc⟩ := tz_spec n h0 h1 h2
  generalize tz n = c at *
  by_cases hle : e ≤ c
  · rw [Nat.min_eq_left hle]
    have e1 : n = o * 2 ^ (c - e) * 2 ^ e := by rw [Int.mul_assoc, ← Int.pow_add, show c - e + e = c by omega]; exact ho
    have hp := two_pow_pos e
    have e2 : n / 2 ^ e = o * 2 ^ (c - e) := by
      conv => lhs; rw [e1]
      exact Int.mul_ediv_cancel _ (by omega)
    rw [e2]
    conv => lhs; rw [e1]
    have := strip_mul e 0 (o * 2 ^ (c - e))
    rw [Nat.zero_add] at this
    rw [this, Nat.sub_self, strip_of_odd 0 _ (Or.inl rfl)]
  · rw [Nat.min_eq_right (by omega)]
    have hp := two_pow_pos c
    have e2 : n / 2 ^ c = o := by
      conv => lhs; rw [ho]
      exact Int.mul_ediv_cancel _ (by omega)
    rw [e2]
    have := strip_mul c (e - c) o
    rw [show e - c + c = e by omega, ← ho] at this
    rw [this, strip_of_odd _ _ (Or.inr hodd)]
theorem made_tz (n : Int) (e : Nat) (he : e ≤ 62) (h0 : n ≠ 0) (h1 : -9223372036854775808 ≤ n) (h2 : n ≤ 9223372036854775807) : made n e = if validB (n / 2 ^ (min e (tz n))) ((e - min e (tz n) : Nat) : Int) = true then (n / 2 ^ (min e (tz n)), ((e - min e (tz n) : Nat) : Int), 0) else (0, 0, 190) := made_of he (strip_tz n e h0 h1 h2)
theorem made_zero (e : Nat) (he : e ≤ 62) : made 0 e = (0, 0, 0) := by
  rw [made_of he (strip_zero e), if_pos (by unfold validB; decide)]; rfl
attribute [irreducible] tz
end Go.Dy
end

