/-
  Lemmas for the proof of the statement of this claim: a part of the road, no statement of its own. Conditions: those that each lemma names.
-/
import Derived.Test.YtcapijkioaocmaaDoorKm
section
/-
  Fractions as whole numbers, in parts of 2^30.
-/
set_option linter.unusedVariables false
set_option maxHeartbeats 1000000
namespace Go.Dy
def val (n : Int) (e : Nat) : Int := n * 2 ^ (30 - e)
theorem p30 (e : Nat) (he : e ≤ 30) : (2 : Int) ^ e * 2 ^ (30 - e) = 1073741824 := by
  rw [← Int.pow_add, show e + (30 - e) = 30 by omega]; decide
theorem wh_val (n : Int) (e : Nat) (he : e ≤ 30) : wh n e = val n e / 1073741824 := by
  unfold wh val
  rw [← p30 e he]
  exact (Int.mul_ediv_mul_of_pos_left _ _ (two_pow_pos _)).symm
theorem rs_val (n : Int) (e : Nat) (he : e ≤ 30) : rs n e = val n e % 1073741824 := by
  unfold rs val
  rw [← p30 e he, Int.mul_comm n, Int.mul_comm (2 ^ e), Int.mul_comm (n % _), Int.mul_emod_mul_of_pos _ _ (two_pow_pos _)]
theorem cmp_val (n : Int) (e : Nat) (m : Int) (f : Nat) (he : e ≤ 30) (hf : f ≤ 30) : cmpF n e m f = cmpI (val n e) (val m f) := by
  unfold cmpF
  rw [wh_val n e he, wh_val m f hf, rs_val n e he, rs_val m f hf]
  unfold cmpI
  generalize val n e = a
  generalize val m f = b
  repeat' split
  all_goals omega
theorem val_neg (n : Int) (e : Nat) : val (-n) e = - val n e := by unfold val; rw [Int.neg_mul]
theorem val0 (e : Nat) : val 0 e = 0 := by unfold val; rw [Int.zero_mul]
/-- The fraction of a number, if it has one. -/
def norm (S : Int) : Int × Int × Int :=
  if (strip 30 S).1 ≤ 1099511627776 ∧ -1099511627776 ≤ (strip 30 S).1 then ((strip 30 S).1, ((strip 30 S).2 : Int), 0) else (0, 0, 190)
theorem strip_val30 (n : Int) (e : Nat) (he : e ≤ 30) : strip 30 (val n e) = strip e n := by
  unfold val
  have := strip_mul (30 - e) e n
  rwa [show e + (30 - e) = 30 by omega] at this
theorem norm_val (n : Int) (e : Nat) (h : Valid n e) : norm (val n e) = (n, (e : Int), 0) := by
  obtain ⟨he, h1, h2, h3⟩ := h
  unfold norm
  rw [strip_val30 n e he, strip_of_odd e n h3, if_pos ⟨h2, h1⟩]
theorem val_strip (S : Int) : val (strip 30 S).1 (strip 30 S).2 = S := strip_val 30 S
theorem validB_iff (n : Int) (e : Nat) : validB n e = true ↔ Valid n e := by
  unfold validB Valid
  rw [decide_eq_true_iff]
  omega
theorem norm_cases (S : Int) : (∃ n e, Valid n e ∧ val n e = S ∧ norm S = (n, (e : Int), 0)) ∨ (norm S = (0, 0, 190) ∧ ∀ n e, Valid n e → val n e ≠ S) := by
  by_cases h : (strip 30 S).1 ≤ 1099511627776 ∧ -1099511627776 ≤ (strip 30 S).1
  · left
    refine ⟨(strip 30 S).1, (strip 30 S).2, ⟨strip_le 30 S, h.2, h.1, strip_odd 30 S⟩, val_strip S, ?_⟩
    unfold norm; rw [if_pos h]
  · right
    refine ⟨by unfold norm; rw [if_neg h], ?_⟩
    intro n e hv he
    subst he
    obtain ⟨he, h1, h2, h3⟩ := hv
    rw [strip_val30 n e he, strip_of_odd e n h3] at h
    exact h ⟨h2, h1⟩
theorem made_norm (n : Int) (e : Nat) (he : e ≤ 30) : made n e = norm (val n e) := by
  unfold norm
  rw [strip_val30 n e he, made_of (by omega) (m := (strip e n).1) (x := (strip e n).2) rfl]
  have h1 := strip_le e n
  have h2 := strip_odd e n
  generalize strip e n = p at *
  unfold validB
  simp only [decide_eq_true_eq]
  split <;> split <;> first | rfl | omega
theorem strip_add : ∀ (e : Nat) (w t : Int), 0 ≤ t → t < 2 ^ e → strip e (w * 2 ^ e + t) = (w * 2 ^ (strip e t).2 + (strip e t).1, (strip e t).2)
  | 0, w, t, h1, h2 => by
    unfold strip; simp
  | e + 1, w, t, h1, h2 => by
    have h3 : w * 2 ^ (e + 1) = 2 * (w * 2 ^ e) := by rw [Int.pow_succ, ← Int.mul_assoc, Int.mul_comm]
    have hp : (2 : Int) ^ (e + 1) = 2 * 2 ^ e := by rw [Int.pow_succ, Int.mul_comm]
    by_cases h : t % 2 = 0
    · have ih := strip_add e w (t / 2) (by omega) (by omega)
      have l : strip (e + 1) (w * 2 ^ (e + 1) + t) = strip e (w * 2 ^ e + t / 2) := by
        conv => lhs; unfold strip
        rw [if_pos (by omega)]
        congr 1
        omega
      have r : strip (e + 1) t = strip e (t / 2) := by
        conv => lhs; unfold strip
        rw [if_pos h]
      rw [l, r, ih]
    · rw [strip_of_odd (e + 1) t (by omega), strip_of_odd (e + 1) _ (by omega)]
theorem addF_val (n : Int) (e : Nat) (m : Int) (f : Nat) (he : e ≤ 30) (hf : f ≤ 30) : addF n e m f = norm (val n e + val m f) := by
  unfold addF
  simp only
  rw [wh_val n e he, wh_val m f hf, rs_val n e he, rs_val m f hf]
  generalize val n e = a
  generalize val m f = b
  have e1 : a / 1073741824 + b / 1073741824 + (a % 1073741824 + b % 1073741824) / 1073741824 = (a + b) / 1073741824 := by omega
  have e2 : (a % 1073741824 + b % 1073741824) % 1073741824 = (a + b) % 1073741824 := by omega
  rw [e1, e2]
  generalize a + b = s
  have hs : s = (s / 1073741824) * 2 ^ 30 + s % 1073741824 := by
    rw [show (2 : Int) ^ 30 = 1073741824 by decide]; omega
  have hsa := strip_add 30 (s / 1073741824) (s % 1073741824) (by omega) (by rw [show (2 : Int) ^ 30 = 1073741824 by decide]; omega)
  rw [← hs] at hsa
  have ht0 : 0 ≤ s % 1073741824 := by omega
  have ht1 : s % 1073741824 < 1073741824 := by omega
  have hv := strip_val 30 (s % 1073741824)
  have hl := strip_le 30 (s % 1073741824)
  have ho := strip_odd 30 (s % 1073741824)
  generalize s % 1073741824 = t at *
  generalize s / 1073741824 = w at *
  generalize strip 30 t = p at *
  obtain ⟨q, x⟩ := p
  dsimp only at *
  have hp := two_pow_pos x
  have hp' := two_pow_pos (30 - x)
  have hq : 0 ≤ q ∧ q < 2 ^ x := by
    have h30 := p30 x hl
    constructor
    · rcases Int.lt_or_le q 0 with h | h
      · have := Int.mul_neg_of_neg_of_pos h hp'
        omega
      · exact h
    · rcases Int.lt_or_le q (2 ^ x) with h | h
      · exact h
      · have := Int.mul_le_mul_of_nonneg_right h (Int.le_of_lt hp')
        omega
  have hm : 1099511627776 / (2 : Int) ^ x * 2 ^ x ≤ 1099511627776 := Int.ediv_mul_le _ (by omega)
  have hm' : 1099511627776 < (1099511627776 / (2 : Int) ^ x + 1) * 2 ^ x := Int.lt_ediv_add_one_mul_self _ hp
  have hstr : strip x (w * 2 ^ x + q) = (w * 2 ^ x + q, x) := by
    refine strip_of_odd x _ ?_
    rcases ho with h | h
    · exact Or.inl h
    · right
      cases x with
      | zero => simp at hq; omega
      | succ y =>
        have : w * 2 ^ (y + 1) = 2 * (w * 2 ^ y) := by rw [Int.pow_succ, ← Int.mul_assoc, Int.mul_comm]
        omega
  have hmade := made_of (by omega : x ≤ 62) hstr
  unfold norm
  rw [hsa]
  dsimp only
  generalize 1099511627776 / (2 : Int) ^ x = M at *
  split
  · rename_i hc
    rw [if_neg ?_]
    rcases hc with h | h
    · have : (M + 1) * 2 ^ x ≤ w * 2 ^ x := Int.mul_le_mul_of_nonneg_right (by omega) (by omega)
      omega
    · have : w * 2 ^ x ≤ (-(M + 1) - 1) * 2 ^ x := Int.mul_le_mul_of_nonneg_right (by omega) (by omega)
      rw [Int.sub_mul, Int.neg_mul] at this
      omega
  · rw [hmade]
    have hodd : x = 0 ∨ (w * 2 ^ x + q) % 2 = 1 := by
      have := strip_odd x (w * 2 ^ x + q)
      rw [hstr] at this
      exact this
    unfold validB
    simp only [decide_eq_true_eq]
    split <;> split <;> first | rfl | omega
attribute [irreducible] val norm
end Go.Dy
end

section
/-
  The simplest fraction between two, plainly.
-/
set_option linter.unusedVariables false
set_option maxHeartbeats 1000000
namespace Go.Dy
/-- The numerators between two numbers, with an exponent. -/
def lowX (A : Int) (x : Nat) : Int := max (A / 2 ^ (30 - x) + 1) (-1099511627776)
def highX (B : Int) (x : Nat) : Int := min (-((-B) / 2 ^ (30 - x)) - 1) 1099511627776
def near (l h : Int) : Int := if 0 < l then l else if h < 0 then h else 0
def btwF (A B : Int) : Nat → Nat → Int × Int × Int
  | 0, _ => (0, 0, 190)
  | f + 1, x => if lowX A x ≤ highX B x then (near (lowX A x) (highX B x), (x : Int), 0) else btwF A B f (x + 1)
def btw (A B : Int) : Int × Int × Int := btwF A B 31 0
/-- What is between: a numerator with an exponent, in bounds. -/
theorem inX (A B n : Int) (x : Nat) (hx : x ≤ 30) : (lowX A x ≤ n ∧ n ≤ highX B x) ↔ (A < val n x ∧ val n x < B ∧ -1099511627776 ≤ n ∧ n ≤ 1099511627776) := by
  unfold lowX highX val
  have hp := two_pow_pos (30 - x)
  generalize (2 : Int) ^ (30 - x) = p at *
  have h1 : A / p < n ↔ A < n * p := Int.ediv_lt_iff_lt_mul hp
  have h2 : (-B) / p < -n ↔ -B < -n * p := Int.ediv_lt_iff_lt_mul hp
  rw [Int.neg_mul] at h2
  omega
theorem val_succ (n : Int) (x : Nat) (hx : x < 30) : val (2 * n) (x + 1) = val n x := by
  unfold val
  rw [show 30 - x = (30 - (x + 1)) + 1 by omega, Int.pow_succ, Int.mul_comm 2 n, Int.mul_assoc, Int.mul_comm (2 : Int)]
/-- Where the exponent below has none, there is at most one, and it is odd. -/
theorem odd_only (A B n : Int) (x : Nat) (hx : x < 30) (hno : highX B x < lowX A x) (hn : lowX A (x + 1) ≤ n ∧ n ≤ highX B (x + 1)) : n % 2 = 1 := by
  rcases Int.emod_two_eq n with h | h
  · exfalso
    obtain ⟨m, rfl⟩ : ∃ m, n = 2 * m := ⟨n / 2, by omega⟩
    have h1 := (inX A B (2 * m) (x + 1) (by omega)).1 hn
    rw [val_succ m x hx] at h1
    have h2 := (inX A B m x (by omega)).2 ⟨h1.1, h1.2.1, by omega, by omega⟩
    omega
  · exact h
theorem one_only (A B : Int) (x : Nat) (hx : x < 30) (hno : highX B x < lowX A x) (hle : lowX A (x + 1) ≤ highX B (x + 1)) : lowX A (x + 1) = highX B (x + 1) ∧ lowX A (x + 1) % 2 = 1 := by
  have h1 := odd_only A B (lowX A (x + 1)) x hx hno ⟨by omega, hle⟩
  refine ⟨?_, h1⟩
  rcases Int.lt_or_le (lowX A (x + 1)) (highX B (x + 1)) with h | h
  · have := odd_only A B (lowX A (x + 1) + 1) x hx hno ⟨by omega, by omega⟩
    omega
  · omega
theorem lowX_bd (A : Int) (x : Nat) : -1099511627776 ≤ lowX A x := by unfold lowX; omega
theorem highX_bd (B : Int) (x : Nat) : highX B x ≤ 1099511627776 := by unfold highX; omega
/-- A floor, or what stands for it beyond the limits. -/
structure Fl (p F : Int) : Prop where
  ok : p = F ∨ (1099511627776 < F ∧ 1099511627776 < p) ∨ (F < -1099511627776 ∧ p < -1099511627776)
  lo : -9007199254740992 ≤ p
  hi : p ≤ 9007199254740992
theorem Fl.bounds {p q A B : Int} {x : Nat} (hp : Fl p (A / 2 ^ (30 - x))) (hq : Fl q ((-B) / 2 ^ (30 - x))) : (max (p + 1) (-1099511627776) ≤ min (-q - 1) 1099511627776 ↔ lowX A x ≤ highX B x) ∧ (lowX A x ≤ highX B x → max (p + 1) (-1099511627776) = lowX A x ∧ min (-q - 1) 1099511627776 = highX B x) := by
  obtain ⟨h1, _, _⟩ := hp
  obtain ⟨h2, _, _⟩ := hq
  unfold lowX highX
  generalize A / 2 ^ (30 - x) = F at *
  generalize (-B) / 2 ^ (30 - x) = G at *
  omega
theorem btwF_succ (A B : Int) (f x : Nat) : btwF A B (f + 1) x = if lowX A x ≤ highX B x then (near (lowX A x) (highX B x), (x : Int), 0) else btwF A B f (x + 1) := rfl
attribute [irreducible] lowX highX btwF
end Go.Dy
end

