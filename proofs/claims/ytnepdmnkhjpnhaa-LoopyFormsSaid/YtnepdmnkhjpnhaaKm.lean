/-
  Lemmas for the proof of the statement of this claim: a part of the road, no statement of its own. Conditions: those that each lemma names.
-/
import Derived.Test.YtnepdmnkhjpnhaaKl
import Derived.Test.YtnepdmnkhjpnhaaVm
section
/-
  Graphs without loops as forms: who wins a spot is who wins the form of its node and a whole number.
-/
set_option linter.unusedVariables false
set_option linter.unusedSimpArgs false
namespace Go.Lf
open Go.Lp (Gr Sp GV opts stp mv mv_mem Out)
open Go.Va
open Go.Dy (val)
/-! ### Sums once more -/
def bin : Nat → Nat → Nat
  | 0, _ => 1
  | _ + 1, 0 => 1
  | a + 1, b + 1 => bin a (b + 1) + bin (a + 1) b
theorem bin_zr : ∀ a, bin a 0 = 1
  | 0 => by simp [bin]
  | _ + 1 => by simp [bin]
theorem bin_ml : ∀ a b, bin a b ≤ bin (a + 1) b
  | a, 0 => by rw [bin_zr, bin_zr]; exact Nat.le_refl _
  | a, b + 1 => by rw [show bin (a + 1) (b + 1) = bin a (b + 1) + bin (a + 1) b from by rw [bin]]; omega
theorem bin_mr : ∀ a b, bin a b ≤ bin a (b + 1)
  | 0, b => by simp [bin]
  | a + 1, b => by rw [show bin (a + 1) (b + 1) = bin a (b + 1) + bin (a + 1) b from by rw [bin]]; omega
theorem bin_mono {a b c d : Nat} (h : a ≤ c) (k : b ≤ d) : bin a b ≤ bin c d := by
  have h1 : ∀ n, bin a b ≤ bin (a + n) b := fun n => by
    induction n with
    | zero => exact Nat.le_refl _
    | succ n ih => exact Nat.le_trans ih (bin_ml _ _)
  have h2 : ∀ n, bin c b ≤ bin c (b + n) := fun n => by
    induction n with
    | zero => exact Nat.le_refl _
    | succ n ih => exact Nat.le_trans ih (bin_mr _ _)
  have e1 := h1 (c - a)
  have e2 := h2 (d - b)
  rw [show a + (c - a) = c by omega] at e1
  rw [show b + (d - b) = d by omega] at e2
  exact Nat.le_trans e1 e2
theorem bin_pos (a b : Nat) : 1 ≤ bin a b := by
  have := bin_mono (Nat.zero_le a) (Nat.zero_le b)
  rwa [show bin 0 0 = 1 by simp [bin]] at this
theorem dp_pos {a : Fm} (h : ¬ sz a ≤ 1) : 1 ≤ dp a := by
  have e := sz_eq a
  cases hl : a.L with
  | cons x l => have := dp_L (f := a) (x := x) (by rw [hl]; simp); omega
  | nil =>
    cases hr : a.R with
    | cons x l => have := dp_R (f := a) (x := x) (by rw [hr]; simp); omega
    | nil => rw [hl, hr] at e; simp [szs] at e; omega
theorem sz_bin_n : ∀ n a b, sz a + sz b ≤ n → sz (add a b) ≤ sz a * sz b * bin (dp a) (dp b) := by
  intro n
  induction n with
  | zero => intro a b h; have := sz_pos a; omega
  | succ n ih =>
    intro a b h
    have pa := sz_pos a
    have pb := sz_pos b
    by_cases ha : sz a ≤ 1
    · have e := eq_zero_of_sz ha
      have e1 : sz a = 1 := by omega
      rw [e1, e, add_zero_l, Nat.one_mul]
      exact Nat.le_mul_of_pos_right _ (bin_pos _ _)
    by_cases hb : sz b ≤ 1
    · have e := eq_zero_of_sz hb
      have e1 : sz b = 1 := by omega
      rw [e1, e, add_zero', Nat.mul_one]
      exact Nat.le_mul_of_pos_right _ (bin_pos _ _)
    obtain ⟨p, hp⟩ : ∃ p, dp a = p + 1 := ⟨dp a - 1, by have := dp_pos ha; omega⟩
    obtain ⟨q, hq⟩ : ∃ q, dp b = q + 1 := ⟨dp b - 1, by have := dp_pos hb; omega⟩
    have g1 : ∀ x, sz x < sz a → dp x + 1 ≤ dp a → sz (add x b) ≤ sz x * (sz b * bin p (q + 1)) := fun x h1 h2 => by
      have := ih x b (by omega)
      rw [Nat.mul_assoc] at this
      exact Nat.le_trans this (Nat.mul_le_mul_left _ (Nat.mul_le_mul_left _ (bin_mono (by omega) (by omega))))
    have g2 : ∀ x, sz x < sz b → dp x + 1 ≤ dp b → sz (add a x) ≤ sz x * (sz a * bin (p + 1) q) := fun x h1 h2 => by
      have := ih a x (by omega)
      rw [Nat.mul_comm (sz a), Nat.mul_assoc] at this
      exact Nat.le_trans this (Nat.mul_le_mul_left _ (Nat.mul_le_mul_left _ (bin_mono (by omega) (by omega))))
    rw [sz_eq (add a b), add_L, add_R, szs_app, szs_app, hp, hq, show bin (p + 1) (q + 1) = bin p (q + 1) + bin (p + 1) q from by rw [bin]]
    have k1 := szs_map_mul (g := (add · b)) (l := a.L) fun x hx => g1 x (sz_L hx) (dp_L hx)
    have k2 := szs_map_mul (g := (add a ·)) (l := b.L) fun x hx => g2 x (sz_L hx) (dp_L hx)
    have k3 := szs_map_mul (g := (add · b)) (l := a.R) fun x hx => g1 x (sz_R hx) (dp_R hx)
    have k4 := szs_map_mul (g := (add a ·)) (l := b.R) fun x hx => g2 x (sz_R hx) (dp_R hx)
    have ea := sz_eq a
    have eb := sz_eq b
    generalize bin p (q + 1) = B1 at *
    have hB : 1 ≤ bin (p + 1) q := bin_pos _ _
    generalize bin (p + 1) q = B2 at *
    have q1 : szs a.L * (sz b * B1) + szs a.R * (sz b * B1) + sz b * B1 = sz a * sz b * B1 := by
      rw [Nat.mul_assoc (sz a), ea, Nat.add_mul, Nat.add_mul, Nat.one_mul]; omega
    have q2 : szs b.L * (sz a * B2) + szs b.R * (sz a * B2) + sz a * B2 = sz a * sz b * B2 := by
      rw [Nat.mul_comm (sz a) (sz b), Nat.mul_assoc (sz b), eb, Nat.add_mul, Nat.add_mul, Nat.one_mul]; omega
    have q4 : 1 ≤ sz a * B2 := Nat.mul_pos pa hB
    rw [Nat.mul_add]
    omega
theorem sz_bin {a b : Fm} {m n p q : Nat} (ha : sz a ≤ m) (hb : sz b ≤ n) (hp : dp a ≤ p) (hq : dp b ≤ q) : sz (add a b) ≤ m * n * bin p q :=
  Nat.le_trans (sz_bin_n _ a b (Nat.le_refl _)) (Nat.mul_le_mul (Nat.mul_le_mul ha hb) (bin_mono hp hq))
/-! ### Who wins -/
def win (f : Fm) (i : Int) : Bool := if i = 0 then !leq f Va.zero else !leq Va.zero f
theorem win_eq (f : Fm) (i : Int) (hi : i = 0 ∨ i = 1) : win f i = (if i ≠ 0 then f.R else f.L).any fun o => !win o (1 - i) := by
  rcases hi with rfl | rfl
  · simp only [win, if_true, ne_eq, not_true, if_false]
    rw [leq_eq f Va.zero]
    simp [Va.zero, Fm.R, List.all_eq_not_any_not]
  · simp only [win, ne_eq]
    rw [leq_eq Va.zero f]
    simp [Va.zero, Fm.L, List.all_eq_not_any_not]
/-! ### Nodes as forms -/
/-- Options go to lesser nodes only. -/
structure Acg (g : Gr) : Prop where
  v : GV g
  l : ∀ i (h : i < g.L.length), ∀ m ∈ g.L[i], m < i
  r : ∀ i (h : i < g.R.length), ∀ m ∈ g.R[i], m < i
def oL (g : Gr) (a : Nat) : List Int := (g.L[a]?).getD []
def oR (g : Gr) (a : Nat) : List Int := (g.R[a]?).getD []
theorem oL_mem {g : Gr} (hg : Acg g) {a : Nat} {m : Int} (h : m ∈ oL g a) : 0 ≤ m ∧ m.toNat < a := by
  unfold oL at h
  by_cases hl : a < g.L.length
  · rw [List.getElem?_eq_getElem hl] at h
    have := hg.l a hl m h
    have h2 := ((hg.v.ol _ (List.getElem_mem hl)).2 m h).1
    omega
  · rw [List.getElem?_eq_none (by omega)] at h; cases h
theorem oR_mem {g : Gr} (hg : Acg g) {a : Nat} {m : Int} (h : m ∈ oR g a) : 0 ≤ m ∧ m.toNat < a := by
  unfold oR at h
  by_cases hl : a < g.R.length
  · rw [List.getElem?_eq_getElem hl] at h
    have := hg.r a hl m h
    have h2 := ((hg.v.or _ (List.getElem_mem hl)).2 m h).1
    omega
  · rw [List.getElem?_eq_none (by omega)] at h; cases h
def fmN (g : Gr) : Nat → Nat → Fm
  | 0, _ => Va.zero
  | n + 1, a => .mk ((oL g a).map fun m => fmN g n m.toNat) ((oR g a).map fun m => fmN g n m.toNat)
theorem fmN_eq {g : Gr} (hg : Acg g) : ∀ (n m a : Nat), a < n → a < m → fmN g n a = fmN g m a := by
  intro n
  induction n with
  | zero => intro m a h; omega
  | succ n ih =>
    intro m a h k
    obtain ⟨m, rfl⟩ : ∃ q, m = q + 1 := ⟨m - 1, by omega⟩
    simp only [fmN]
    congr 1
    · refine List.map_congr_left fun x hx => ?_
      have := (oL_mem hg hx).2
      exact ih m _ (by omega) (by omega)
    · refine List.map_congr_left fun x hx => ?_
      have := (oR_mem hg hx).2
      exact ih m _ (by omega) (by omega)
def fN (g : Gr) (a : Nat) : Fm := fmN g (a + 1) a
theorem fN_L {g : Gr} (hg : Acg g) (a : Nat) : (fN g a).L = (oL g a).map fun m => fN g m.toNat := by
  show (oL g a).map _ = _
  refine List.map_congr_left fun x hx => ?_
  have := (oL_mem hg hx).2
  exact fmN_eq hg _ _ _ (by omega) (by omega)
theorem fN_R {g : Gr} (hg : Acg g) (a : Nat) : (fN g a).R = (oR g a).map fun m => fN g m.toNat := by
  show (oR g a).map _ = _
  refine List.map_congr_left fun x hx => ?_
  have := (oR_mem hg hx).2
  exact fmN_eq hg _ _ _ (by omega) (by omega)
theorem szs_all {l : List Fm} {B : Nat} (h : ∀ x ∈ l, sz x ≤ B) : szs l ≤ l.length * B := by
  induction l with
  | nil => simp [szs]
  | cons x l ih =>
    have := h x (by simp)
    have := ih fun y hy => h y (by simp [hy])
    simp only [szs, List.length_cons, Nat.add_mul]; omega
def bound : Nat → Nat
  | 0 => 1
  | n + 1 => 1 + 16 * bound n
theorem bound_mono : ∀ {a b : Nat}, a ≤ b → bound a ≤ bound b := by
  intro a b h
  induction b with
  | zero => rw [show a = 0 by omega]; exact Nat.le_refl _
  | succ b ih =>
    by_cases e : a = b + 1
    · subst e; exact Nat.le_refl _
    · have := ih (by omega); simp only [bound]; omega
theorem fN_sz {g : Gr} (hg : Acg g) (h8 : ∀ a, (oL g a).length ≤ 8 ∧ (oR g a).length ≤ 8) : ∀ n a, a ≤ n → sz (fN g a) ≤ bound a ∧ dp (fN g a) ≤ a := by
  intro n
  induction n with
  | zero =>
    intro a h
    have : a = 0 := by omega
    subst this
    have e1 : oL g 0 = [] := List.eq_nil_iff_forall_not_mem.2 fun m hm => by have := (oL_mem hg hm).2; omega
    have e2 : oR g 0 = [] := List.eq_nil_iff_forall_not_mem.2 fun m hm => by have := (oR_mem hg hm).2; omega
    rw [sz_eq, dp_eq, fN_L hg, fN_R hg, e1, e2]
    simp [szs, dps, bound]
  | succ n ih =>
    intro a h
    by_cases ha : a = 0
    · exact ih a (by omega)
    obtain ⟨b, rfl⟩ : ∃ b, a = b + 1 := ⟨a - 1, by omega⟩
    have k1 : ∀ x ∈ (oL g (b + 1)).map (fun m => fN g m.toNat), sz x ≤ bound b ∧ dp x ≤ b := fun x hx => by
      obtain ⟨m, hm, rfl⟩ := List.mem_map.1 hx
      have := (oL_mem hg hm).2
      have := ih m.toNat (by omega)
      exact ⟨Nat.le_trans this.1 (bound_mono (by omega)), by omega⟩
    have k2 : ∀ x ∈ (oR g (b + 1)).map (fun m => fN g m.toNat), sz x ≤ bound b ∧ dp x ≤ b := fun x hx => by
      obtain ⟨m, hm, rfl⟩ := List.mem_map.1 hx
      have := (oR_mem hg hm).2
      have := ih m.toNat (by omega)
      exact ⟨Nat.le_trans this.1 (bound_mono (by omega)), by omega⟩
    constructor
    · have s1 := szs_all fun x hx => (k1 x hx).1
      have s2 := szs_all fun x hx => (k2 x hx).1
      rw [List.length_map] at s1 s2
      rw [sz_eq, fN_L hg, fN_R hg]
      have m1 := Nat.mul_le_mul_right (bound b) (h8 (b + 1)).1
      have m2 := Nat.mul_le_mul_right (bound b) (h8 (b + 1)).2
      simp only [bound]
      omega
    · refine dp_le (fun x hx => ?_) (fun x hx => ?_)
      · rw [fN_L hg] at hx; have := (k1 x hx).2; omega
      · rw [fN_R hg] at hx; have := (k2 x hx).2; omega
/-! ### Whole numbers -/
def wN (k : Int) : Fm := ff (val k 0)
theorem val0 (k : Int) : val k 0 = k * 1073741824 := by unfold Go.Dy.val; rw [show (2 : Int) ^ (30 - 0) = 1073741824 by decide]
theorem w_nu {k : Int} (h : -1000 ≤ k ∧ k ≤ 1000) : nu (val k 0) = k ∧ ex (val k 0) = 0 := nu_val ⟨by decide, by omega, by omega, .inl rfl⟩
theorem w_un {k : Int} (h : -1000 ≤ k ∧ k ≤ 1000) : un (val k 0) = 1073741824 := un_int (w_nu h).2
theorem wN_L {k : Int} (h : -1000 ≤ k ∧ k ≤ 1000) : (wN k).L = if 0 < k then [wN (k - 1)] else [] := by
  unfold wN
  rw [ff_L, (w_nu h).2, w_un h]
  rw [show val (k - 1) 0 = val k 0 - 1073741824 by rw [val0, val0]; omega]
  by_cases hk : 0 < k
  · rw [if_pos hk, if_pos (.inr (by rw [val0]; omega))]
  · rw [if_neg hk, if_neg (by rw [val0]; omega)]
theorem wN_R {k : Int} (h : -1000 ≤ k ∧ k ≤ 1000) : (wN k).R = if k < 0 then [wN (k + 1)] else [] := by
  unfold wN
  rw [ff_R, (w_nu h).2, w_un h]
  rw [show val (k + 1) 0 = val k 0 + 1073741824 by rw [val0, val0]; omega]
  by_cases hk : k < 0
  · rw [if_pos hk, if_pos (.inr (by rw [val0]; omega))]
  · rw [if_neg hk, if_neg (by rw [val0]; omega)]
theorem wN_sz {k : Int} (h : -2 ≤ k ∧ k ≤ 2) : sz (wN k) ≤ 3 ∧ dp (wN k) ≤ 2 := by
  have e := sz_whole (w_nu (k := k) (by omega)).2
  rw [(w_nu (k := k) (by omega)).1] at e
  have hd := dp_sz (wN k)
  have e2 : sz (wN k) = k.natAbs + 1 := e
  omega
/-! ### Spots -/
def sN (g : Gr) (s : Sp) : Fm := add (fN g s.1.toNat) (wN s.2.1)
theorem opts0 {g : Gr} {a k : Int} : opts g (a, k, 0) = oL g a.toNat := rfl
theorem opts1 {g : Gr} {a k : Int} : opts g (a, k, 1) = oR g a.toNat := rfl
theorem sN_out {g : Gr} (hg : Acg g) : ∀ (N : Nat) (s : Sp), sz (sN g s) ≤ N → 0 ≤ s.1 → (-1000 ≤ s.2.1 ∧ s.2.1 ≤ 1000) → (s.2.2 = 0 ∨ s.2.2 = 1) → (win (sN g s) s.2.2 = true → Out g 1 s) ∧ (win (sN g s) s.2.2 = false → Out g 3 s) := by
  intro N
  induction N with
  | zero => intro s h; have := sz_pos (sN g s); omega
  | succ N ih =>
    rintro ⟨a, k, w⟩ h ha hk hw
    dsimp only at ha hk hw
    -- the options are the moves' forms
    have key : ∀ o, o ∈ (if w ≠ 0 then (sN g (a, k, w)).R else (sN g (a, k, w)).L) ↔ ∃ m ∈ mv g (a, k, w), o = sN g m ∧ 0 ≤ m.1 ∧ (-1000 ≤ m.2.1 ∧ m.2.1 ≤ 1000) ∧ m.2.2 = 1 - w := by
      intro o
      rcases hw with rfl | rfl
      · rw [if_neg (by decide)]
        unfold sN
        rw [mem_add_L, fN_L hg, wN_L hk]
        constructor
        · rintro (⟨y, hy, rfl⟩ | ⟨y, hy, rfl⟩)
          · obtain ⟨m, hm, rfl⟩ := List.mem_map.1 hy
            exact ⟨(m, k, 1), mv_mem.2 (.inl ⟨m, hm, rfl⟩), rfl, (oL_mem hg hm).1, hk, rfl⟩
          · split at hy
            · rename_i hp
              obtain rfl := List.mem_singleton.1 hy
              exact ⟨(a, k - 1, 1), mv_mem.2 (.inr ⟨by simp [stp]; omega, by simp [stp]⟩), rfl, ha, by dsimp only; omega, rfl⟩
            · cases hy
        · rintro ⟨m, hm, rfl, -⟩
          rcases mv_mem.1 hm with ⟨i, hi, rfl⟩ | ⟨hp, rfl⟩
          · exact .inl ⟨_, List.mem_map.2 ⟨i, hi, rfl⟩, rfl⟩
          · have hp : 0 < k := by simpa [stp] using hp
            rw [if_pos hp]
            exact .inr ⟨_, List.mem_singleton.2 rfl, by simp [stp]⟩
      · rw [if_pos (by decide)]
        unfold sN
        rw [mem_add_R, fN_R hg, wN_R hk]
        constructor
        · rintro (⟨y, hy, rfl⟩ | ⟨y, hy, rfl⟩)
          · obtain ⟨m, hm, rfl⟩ := List.mem_map.1 hy
            exact ⟨(m, k, 0), mv_mem.2 (.inl ⟨m, hm, rfl⟩), rfl, (oR_mem hg hm).1, hk, rfl⟩
          · split at hy
            · rename_i hp
              obtain rfl := List.mem_singleton.1 hy
              exact ⟨(a, k + 1, 0), mv_mem.2 (.inr ⟨by simp [stp]; omega, by simp [stp]⟩), rfl, ha, by dsimp only; omega, rfl⟩
            · cases hy
        · rintro ⟨m, hm, rfl, -⟩
          rcases mv_mem.1 hm with ⟨i, hi, rfl⟩ | ⟨hp, rfl⟩
          · exact .inl ⟨_, List.mem_map.2 ⟨i, hi, rfl⟩, rfl⟩
          · have hp : k < 0 := by simp [stp] at hp; omega
            rw [if_pos hp]
            exact .inr ⟨_, List.mem_singleton.2 rfl, by simp [stp]⟩
    have hlt : ∀ o, o ∈ (if w ≠ 0 then (sN g (a, k, w)).R else (sN g (a, k, w)).L) → sz o ≤ N := fun o ho => by
      split at ho
      · have := sz_R ho; omega
      · have := sz_L ho; omega
    -- every move's spot is an option
    have mk : ∀ m ∈ mv g (a, k, w), sN g m ∈ (if w ≠ 0 then (sN g (a, k, w)).R else (sN g (a, k, w)).L) ∧ 0 ≤ m.1 ∧ (-1000 ≤ m.2.1 ∧ m.2.1 ≤ 1000) ∧ m.2.2 = 1 - w := fun m hm => by
      have hb : 0 ≤ m.1 ∧ (-1000 ≤ m.2.1 ∧ m.2.1 ≤ 1000) ∧ m.2.2 = 1 - w := by
        rcases mv_mem.1 hm with ⟨i, hi, rfl⟩ | ⟨hp, rfl⟩
        · refine ⟨?_, hk, rfl⟩
          rcases hw with rfl | rfl
          · exact (oL_mem hg hi).1
          · exact (oR_mem hg hi).1
        · refine ⟨ha, ?_, rfl⟩
          dsimp only at hp ⊢
          rcases hw with rfl | rfl
          · simp [stp] at hp ⊢; omega
          · simp [stp] at hp ⊢; omega
      exact ⟨(key _).2 ⟨m, hm, rfl, hb⟩, hb⟩
    constructor
    · intro hwin
      rw [show win (sN g (a, k, w)) w = _ from win_eq _ w hw, List.any_eq_true] at hwin
      obtain ⟨o, ho, hl⟩ := hwin
      obtain ⟨m, hm, rfl, b1, b2, b3⟩ := (key o).1 ho
      refine .win hm ((ih m (hlt _ ho) b1 b2 (by omega)).2 ?_)
      rw [b3]
      simpa using hl
    · intro hlose
      rw [show win (sN g (a, k, w)) w = _ from win_eq _ w hw, List.any_eq_false] at hlose
      refine .loss fun m hm => ?_
      obtain ⟨ho, b1, b2, b3⟩ := mk m hm
      refine (ih m (hlt _ ho) b1 b2 (by omega)).1 ?_
      rw [b3]
      simpa using hlose _ ho
theorem out_of {g : Gr} (hg : Acg g) {s : Sp} (ha : 0 ≤ s.1) (hk : -1000 ≤ s.2.1 ∧ s.2.1 ≤ 1000) (hw : s.2.2 = 0 ∨ s.2.2 = 1) : (win (sN g s) s.2.2 = true → Out g 1 s) ∧ (win (sN g s) s.2.2 = false → Out g 3 s) := sN_out hg _ s (Nat.le_refl _) ha hk hw
/-- What is wanted: Left's result. -/
theorem left_of {g : Gr} (hg : Acg g) {s : Sp} (ha : 0 ≤ s.1) (hk : -1000 ≤ s.2.1 ∧ s.2.1 ≤ 1000) (hw : s.2.2 = 0 ∨ s.2.2 = 1) :
    Lp.left g s = if (if s.2.2 = 0 then (if leq (sN g s) Va.zero then (1 : Int) else 0) else (if leq Va.zero (sN g s) then 0 else 1)) = 1 then 3 else 1 := by
  obtain ⟨h1, h3⟩ := out_of hg ha hk hw
  rcases hw with hw | hw
  · rw [hw] at h1 h3
    rw [if_pos hw]
    simp only [win, if_true] at h1 h3
    cases hl : leq (sN g s) Va.zero
    · rw [hl] at h1
      rw [(Lp.left_eq1 (.inl hw)).2 (.inl ⟨hw, h1 rfl⟩)]; simp
    · rw [hl] at h3
      rw [(Lp.left_eq3 (.inl hw)).2 (.inl ⟨hw, h3 rfl⟩)]; simp
  · rw [hw] at h1 h3
    rw [if_neg (show ¬ s.2.2 = 0 by omega)]
    simp only [win, show ¬ (1 : Int) = 0 by decide, if_false] at h1 h3
    cases hl : leq Va.zero (sN g s)
    · rw [hl] at h1
      rw [(Lp.left_eq3 (.inr hw)).2 (.inr ⟨hw, h1 rfl⟩)]; simp
    · rw [hl] at h3
      rw [(Lp.left_eq1 (.inr hw)).2 (.inr ⟨hw, h3 rfl⟩)]; simp
end Go.Lf
end

section
/-
  A node without options is 0.
-/
set_option linter.unusedVariables false
namespace Go.Lf
open Go.Lp (Gr Sp GV opts stp mv mv_mem Out LoP HiP loB hiB)
open Go.Va
open Go.Dy (val)
theorem fN_zero {g : Gr} (hg : Acg g) : fN g 0 = Va.zero := by
  have e1 : oL g 0 = [] := List.eq_nil_iff_forall_not_mem.2 fun m hm => by have := (oL_mem hg hm).2; omega
  have e2 : oR g 0 = [] := List.eq_nil_iff_forall_not_mem.2 fun m hm => by have := (oR_mem hg hm).2; omega
  refine ext ?_ ?_
  · rw [fN_L hg, e1]; rfl
  · rw [fN_R hg, e2]; rfl
theorem sN_zero {g : Gr} (hg : Acg g) (k w : Int) : sN g (0, k, w) = ff (val k 0) := by
  unfold sN
  show add (fN g 0) _ = _
  rw [fN_zero hg, add_zero_l]; rfl
theorem left0_1 {g : Gr} (hg : Acg g) {k : Int} (hk : -1000 ≤ k ∧ k ≤ 1000) : Lp.left g (0, k, 1) = if 0 ≤ k then 1 else 3 := by
  rw [left_of hg (Int.le_refl 0) hk (.inr rfl), sN_zero hg]
  dsimp only
  rw [← ff_zero, leq_ff, leq_ff, val0, show decide (0 ≤ k * 1073741824) = decide (0 ≤ k) by rw [decide_eq_decide]; omega]
  by_cases h : 0 ≤ k <;> simp [h]
theorem left0_0 {g : Gr} (hg : Acg g) {k : Int} (hk : -1000 ≤ k ∧ k ≤ 1000) : Lp.left g (0, k, 0) = if k ≤ 0 then 3 else 1 := by
  rw [left_of hg (Int.le_refl 0) hk (.inl rfl), sN_zero hg]
  dsimp only
  rw [← ff_zero, leq_ff, leq_ff, val0, show decide (k * 1073741824 ≤ 0) = decide (k ≤ 0) by rw [decide_eq_decide]; omega]
  by_cases h : k ≤ 0 <;> simp [h]
theorem lo0 {g : Gr} (hg : Acg g) : loB (LoP g 0) 0 := ⟨by decide, by decide, fun _ => by unfold Lp.LoP; rw [left0_1 hg (by omega)]; decide, fun k h1 h2 hn => by
  unfold Lp.LoP at hn
  rw [left0_1 hg (by omega), if_neg (by omega)] at hn
  exact hn rfl⟩
theorem hi0 {g : Gr} (hg : Acg g) : hiB (HiP g 0) 0 := ⟨by decide, by decide, fun _ => by unfold Lp.HiP; rw [left0_0 hg (by omega)]; decide, fun k h1 h2 hn => by
  unfold Lp.HiP at hn
  rw [left0_0 hg (by omega), if_neg (by omega)] at hn
  exact hn rfl⟩
/-- How large the sums are. -/
theorem sum_sz {g : Gr} (hg : Acg g) (h8 : ∀ a, (oL g a).length ≤ 8 ∧ (oR g a).length ≤ 8) {a : Nat} {k : Int} (ha : a ≤ 3) (hk : -2 ≤ k ∧ k ≤ 2) : sz (fN g a) ≤ 4369 ∧ sz (add (fN g a) (wN k)) ≤ 131070 := by
  obtain ⟨h1, h2⟩ := fN_sz hg h8 3 a ha
  have h3 := Nat.le_trans h1 (bound_mono ha)
  have e : bound 3 = 4369 := by decide
  rw [e] at h3
  have hw := wN_sz hk
  exact ⟨h3, Nat.le_trans (sz_bin h3 hw.1 (Nat.le_trans h2 ha) hw.2) (by simp [bin])⟩
end Go.Lf
end

