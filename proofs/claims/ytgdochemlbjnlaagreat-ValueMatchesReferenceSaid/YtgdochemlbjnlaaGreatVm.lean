/-
  Lemmas for the proof of the statement of this claim: a part of the road, no statement of its own. Conditions: those that each lemma names.
-/
import Derived.Lib.TrailingZeros
section
/-
  Plain maths of partizan games: forms, their order, sums, negatives. No program in sight.
-/
set_option linter.unusedVariables false
set_option linter.unusedSimpArgs false
set_option linter.unusedSectionVars false
namespace Go.Va
inductive Fm where
  | mk (l r : List Fm)
def Fm.L : Fm → List Fm | .mk l _ => l
def Fm.R : Fm → List Fm | .mk _ r => r
theorem Fm.eta (f : Fm) : Fm.mk f.L f.R = f := by cases f; rfl
mutual
def sz : Fm → Nat | .mk l r => 1 + szs l + szs r
def szs : List Fm → Nat | [] => 0 | x :: l => sz x + szs l
end
theorem sz_eq (f : Fm) : sz f = 1 + szs f.L + szs f.R := by cases f; simp [sz, Fm.L, Fm.R]
theorem sz_pos (f : Fm) : 1 ≤ sz f := by rw [sz_eq]; omega
theorem szs_app (l m : List Fm) : szs (l ++ m) = szs l + szs m := by
  induction l with
  | nil => simp [szs]
  | cons x l ih => simp only [List.cons_append, szs, ih]; omega
theorem sz_mem {x : Fm} : ∀ {l : List Fm}, x ∈ l → sz x ≤ szs l
  | [], h => by cases h
  | y :: l, h => by
      simp only [szs]
      rcases List.mem_cons.1 h with rfl | h
      · omega
      · have := sz_mem h; omega
theorem sz_L {f x : Fm} (h : x ∈ f.L) : sz x < sz f := by have := sz_mem h; rw [sz_eq f]; omega
theorem sz_R {f x : Fm} (h : x ∈ f.R) : sz x < sz f := by have := sz_mem h; rw [sz_eq f]; omega
theorem Fm.ind {C : Fm → Prop} (h : ∀ f : Fm, (∀ x ∈ f.L, C x) → (∀ x ∈ f.R, C x) → C f) (f : Fm) : C f := by
  have : ∀ n f, sz f ≤ n → C f := by
    intro n
    induction n with
    | zero => intro f hf; have := sz_pos f; omega
    | succ n ih => exact fun f hf => h f (fun x hx => ih x (by have := sz_L hx; omega)) (fun x hx => ih x (by have := sz_R hx; omega))
  exact this _ f (Nat.le_refl _)

/-! ### The order -/
def leqN : Nat → Fm → Fm → Bool
  | 0, _, _ => false
  | n + 1, a, b => a.L.all (fun x => !leqN n b x) && b.R.all (fun y => !leqN n y a)
def leq (a b : Fm) : Bool := leqN (sz a + sz b) a b
theorem leqN_eq : ∀ n m a b, sz a + sz b ≤ n → sz a + sz b ≤ m → leqN n a b = leqN m a b := by
  intro n
  induction n with
  | zero => intro m a b h; have := sz_pos a; omega
  | succ n ih =>
    intro m a b h h'
    cases m with
    | zero => have := sz_pos a; omega
    | succ m =>
      have e1 : ∀ x ∈ a.L, (!leqN n b x) = (!leqN m b x) := fun x hx => by have := sz_L hx; rw [ih m b x (by omega) (by omega)]
      have e2 : ∀ y ∈ b.R, (!leqN n y a) = (!leqN m y a) := fun y hy => by have := sz_R hy; rw [ih m y a (by omega) (by omega)]
      simp only [leqN]
      rw [show a.L.all (fun x => !leqN n b x) = a.L.all (fun x => !leqN m b x) from by
            rw [Bool.eq_iff_iff]; simp only [List.all_eq_true]; exact ⟨fun g x hx => by rw [← e1 x hx]; exact g x hx, fun g x hx => by rw [e1 x hx]; exact g x hx⟩,
          show b.R.all (fun y => !leqN n y a) = b.R.all (fun y => !leqN m y a) from by
            rw [Bool.eq_iff_iff]; simp only [List.all_eq_true]; exact ⟨fun g x hx => by rw [← e2 x hx]; exact g x hx, fun g x hx => by rw [e2 x hx]; exact g x hx⟩]
theorem leq_eq (a b : Fm) : leq a b = (a.L.all (fun x => !leq b x) && b.R.all (fun y => !leq y a)) := by
  unfold leq
  rw [leqN_eq (sz a + sz b) (sz a + sz b + 1) a b (Nat.le_refl _) (by omega)]
  simp only [leqN]
  congr 1
  · rw [Bool.eq_iff_iff]; simp only [List.all_eq_true]
    constructor <;> intro g x hx <;> have := sz_L hx <;> have k := g x hx
    · rwa [leqN_eq (sz a + sz b) (sz b + sz x) b x (by omega) (by omega)] at k
    · rwa [leqN_eq (sz a + sz b) (sz b + sz x) b x (by omega) (by omega)]
  · rw [Bool.eq_iff_iff]; simp only [List.all_eq_true]
    constructor <;> intro g x hx <;> have := sz_R hx <;> have k := g x hx
    · rwa [leqN_eq (sz a + sz b) (sz x + sz a) x a (by omega) (by omega)] at k
    · rwa [leqN_eq (sz a + sz b) (sz x + sz a) x a (by omega) (by omega)]
def Le (a b : Fm) : Prop := leq a b = true
instance (a b : Fm) : Decidable (Le a b) := inferInstanceAs (Decidable (_ = _))
theorem le_iff {a b : Fm} : Le a b ↔ (∀ x ∈ a.L, ¬ Le b x) ∧ (∀ y ∈ b.R, ¬ Le y a) := by
  unfold Le; rw [leq_eq a b, Bool.and_eq_true, List.all_eq_true, List.all_eq_true]
  simp
theorem Le.l {a b x : Fm} (h : Le a b) (hx : x ∈ a.L) : ¬ Le b x := (le_iff.1 h).1 x hx
theorem Le.r {a b y : Fm} (h : Le a b) (hy : y ∈ b.R) : ¬ Le y a := (le_iff.1 h).2 y hy
theorem le_refl (a : Fm) : Le a a := by
  refine Fm.ind (C := fun a => Le a a) (fun f hl hr => ?_) a
  exact le_iff.2 ⟨fun x hx h => h.l hx (hl x hx), fun y hy h => h.r hy (hr y hy)⟩
theorem not_le_L {a x : Fm} (hx : x ∈ a.L) : ¬ Le a x := (le_refl a).l hx
theorem not_le_R {a y : Fm} (hy : y ∈ a.R) : ¬ Le y a := (le_refl a).r hy
theorem le_trans_n : ∀ n a b c, sz a + sz b + sz c ≤ n → Le a b → Le b c → Le a c := by
  intro n
  induction n with
  | zero => intro a b c h; have := sz_pos a; omega
  | succ n ih =>
    intro a b c h hab hbc
    refine le_iff.2 ⟨fun x hx k => ?_, fun y hy k => ?_⟩
    · exact hab.l hx (ih b c x (by have := sz_L hx; omega) hbc k)
    · exact hbc.r hy (ih y a b (by have := sz_R hy; omega) k hab)
theorem Le.trans {a b c : Fm} (h : Le a b) (k : Le b c) : Le a c := le_trans_n _ a b c (Nat.le_refl _) h k
/-- Options that are matched by ones as good. -/
theorem le_of_match {a b : Fm} (hl : ∀ x ∈ a.L, ∃ y ∈ b.L, Le x y) (hr : ∀ y ∈ b.R, ∃ x ∈ a.R, Le x y) : Le a b := by
  refine le_iff.2 ⟨fun x hx k => ?_, fun y hy k => ?_⟩
  · obtain ⟨z, hz, h⟩ := hl x hx; exact not_le_L hz (k.trans h)
  · obtain ⟨z, hz, h⟩ := hr y hy; exact not_le_R hz (h.trans k)
def Eqv (a b : Fm) : Prop := Le a b ∧ Le b a
theorem Eqv.refl (a : Fm) : Eqv a a := ⟨le_refl a, le_refl a⟩
theorem Eqv.symm {a b : Fm} (h : Eqv a b) : Eqv b a := ⟨h.2, h.1⟩
theorem Eqv.trans {a b c : Fm} (h : Eqv a b) (k : Eqv b c) : Eqv a c := ⟨h.1.trans k.1, k.2.trans h.2⟩
theorem Eqv.le {a b c d : Fm} (h : Eqv a b) (k : Eqv c d) : Le a c ↔ Le b d := ⟨fun g => h.2.trans (g.trans k.1), fun g => h.1.trans (g.trans k.2)⟩

/-! ### Negatives -/
mutual
def neg : Fm → Fm | .mk l r => .mk (negs r) (negs l)
def negs : List Fm → List Fm | [] => [] | x :: l => neg x :: negs l
end
theorem negs_map (l : List Fm) : negs l = l.map neg := by
  induction l with
  | nil => rfl
  | cons x l ih => simp only [negs, ih, List.map_cons]
theorem neg_L (f : Fm) : (neg f).L = f.R.map neg := by cases f; simp [neg, Fm.L, Fm.R, negs_map]
theorem neg_R (f : Fm) : (neg f).R = f.L.map neg := by cases f; simp [neg, Fm.L, Fm.R, negs_map]
theorem ext {f g : Fm} (hl : f.L = g.L) (hr : f.R = g.R) : f = g := by rw [← f.eta, ← g.eta, hl, hr]
theorem map_id' {g : Fm → Fm} : ∀ {l : List Fm}, (∀ x ∈ l, g x = x) → l.map g = l
  | [], _ => rfl
  | x :: l, h => by rw [List.map_cons, h x (by simp), map_id' fun y hy => h y (by simp [hy])]
theorem neg_neg (f : Fm) : neg (neg f) = f := by
  refine Fm.ind (C := fun f => neg (neg f) = f) (fun f hl hr => ?_) f
  apply ext
  · rw [neg_L, neg_R, List.map_map]; exact map_id' hl
  · rw [neg_R, neg_L, List.map_map]; exact map_id' hr
theorem szs_map {g : Fm → Fm} : ∀ {l : List Fm}, (∀ x ∈ l, sz (g x) = sz x) → szs (l.map g) = szs l
  | [], _ => rfl
  | x :: l, h => by simp only [List.map_cons, szs]; rw [h x (by simp), szs_map fun y hy => h y (by simp [hy])]
theorem sz_neg (f : Fm) : sz (neg f) = sz f := by
  refine Fm.ind (C := fun f => sz (neg f) = sz f) (fun f hl hr => ?_) f
  rw [sz_eq (neg f), sz_eq f, neg_L, neg_R, szs_map hl, szs_map hr]; omega
theorem le_neg_n : ∀ n a b, sz a + sz b ≤ n → (Le (neg a) (neg b) ↔ Le b a) := by
  intro n
  induction n with
  | zero => intro a b h; have := sz_pos a; omega
  | succ n ih =>
    intro a b h
    rw [le_iff, le_iff, neg_L, neg_R]
    constructor
    · rintro ⟨h1, h2⟩
      refine ⟨fun x hx k => h2 _ (List.mem_map_of_mem hx) ((ih x a (by have := sz_L hx; omega)).2 k), fun y hy k => h1 _ (List.mem_map_of_mem hy) ((ih b y (by have := sz_R hy; omega)).2 k)⟩
    · rintro ⟨h1, h2⟩
      refine ⟨fun x hx k => ?_, fun x hx k => ?_⟩ <;> obtain ⟨y, hy, rfl⟩ := List.mem_map.1 hx
      · exact h2 y hy ((ih b y (by have := sz_R hy; omega)).1 k)
      · exact h1 y hy ((ih y a (by have := sz_L hy; omega)).1 k)
theorem le_neg {a b : Fm} : Le (neg a) (neg b) ↔ Le b a := le_neg_n _ a b (Nat.le_refl _)
theorem leq_neg (a b : Fm) : leq (neg a) (neg b) = leq b a := by rw [Bool.eq_iff_iff]; exact le_neg

/-! ### Sums -/
def addN : Nat → Fm → Fm → Fm
  | 0, _, _ => .mk [] []
  | n + 1, a, b => .mk (a.L.map (addN n · b) ++ b.L.map (addN n a ·)) (a.R.map (addN n · b) ++ b.R.map (addN n a ·))
def add (a b : Fm) : Fm := addN (sz a + sz b) a b
theorem addN_eq : ∀ n m a b, sz a + sz b ≤ n → sz a + sz b ≤ m → addN n a b = addN m a b := by
  intro n
  induction n with
  | zero => intro m a b h; have := sz_pos a; omega
  | succ n ih =>
    intro m a b h h'
    cases m with
    | zero => have := sz_pos a; omega
    | succ m =>
      simp only [addN]
      congr 2 <;> refine List.map_congr_left fun x hx => ih m _ _ ?_ ?_ <;> first | (have := sz_L hx; omega) | (have := sz_R hx; omega)
theorem add_eq (a b : Fm) : add a b = .mk (a.L.map (add · b) ++ b.L.map (add a ·)) (a.R.map (add · b) ++ b.R.map (add a ·)) := by
  unfold add
  rw [addN_eq (sz a + sz b) (sz a + sz b + 1) a b (Nat.le_refl _) (by omega)]
  simp only [addN]
  congr 2 <;> refine List.map_congr_left fun x hx => addN_eq _ _ _ _ ?_ ?_ <;> first | (have := sz_L hx; omega) | (have := sz_R hx; omega)
theorem add_L (a b : Fm) : (add a b).L = a.L.map (add · b) ++ b.L.map (add a ·) := by rw [add_eq]; rfl
theorem add_R (a b : Fm) : (add a b).R = a.R.map (add · b) ++ b.R.map (add a ·) := by rw [add_eq]; rfl
theorem mem_add_L {a b x : Fm} : x ∈ (add a b).L ↔ (∃ y ∈ a.L, add y b = x) ∨ (∃ y ∈ b.L, add a y = x) := by rw [add_L]; simp
theorem mem_add_R {a b x : Fm} : x ∈ (add a b).R ↔ (∃ y ∈ a.R, add y b = x) ∨ (∃ y ∈ b.R, add a y = x) := by rw [add_R]; simp
theorem in_add_L1 {a b y : Fm} (h : y ∈ a.L) : add y b ∈ (add a b).L := mem_add_L.2 (.inl ⟨y, h, rfl⟩)
theorem in_add_L2 {a b y : Fm} (h : y ∈ b.L) : add a y ∈ (add a b).L := mem_add_L.2 (.inr ⟨y, h, rfl⟩)
theorem in_add_R1 {a b y : Fm} (h : y ∈ a.R) : add y b ∈ (add a b).R := mem_add_R.2 (.inl ⟨y, h, rfl⟩)
theorem in_add_R2 {a b y : Fm} (h : y ∈ b.R) : add a y ∈ (add a b).R := mem_add_R.2 (.inr ⟨y, h, rfl⟩)
theorem add_comm_n : ∀ n a b, sz a + sz b ≤ n → Le (add a b) (add b a) := by
  intro n
  induction n with
  | zero => intro a b h; have := sz_pos a; omega
  | succ n ih =>
    intro a b h
    refine le_of_match (fun x hx => ?_) (fun y hy => ?_)
    · rcases mem_add_L.1 hx with ⟨y, hy, rfl⟩ | ⟨y, hy, rfl⟩ <;> have := sz_L hy
      · exact ⟨_, in_add_L2 hy, ih y b (by omega)⟩
      · exact ⟨_, in_add_L1 hy, ih a y (by omega)⟩
    · rcases mem_add_R.1 hy with ⟨z, hz, rfl⟩ | ⟨z, hz, rfl⟩ <;> have := sz_R hz
      · exact ⟨_, in_add_R2 hz, ih a z (by omega)⟩
      · exact ⟨_, in_add_R1 hz, ih z b (by omega)⟩
theorem add_comm (a b : Fm) : Eqv (add a b) (add b a) := ⟨add_comm_n _ a b (Nat.le_refl _), add_comm_n _ b a (Nat.le_refl _)⟩
theorem add_assoc_n : ∀ n a b c, sz a + sz b + sz c ≤ n → Eqv (add (add a b) c) (add a (add b c)) := by
  intro n
  induction n with
  | zero => intro a b c h; have := sz_pos a; omega
  | succ n ih =>
    intro a b c h
    constructor
    · refine le_of_match (fun x hx => ?_) (fun y hy => ?_)
      · rcases mem_add_L.1 hx with ⟨y, hy, rfl⟩ | ⟨y, hy, rfl⟩
        · rcases mem_add_L.1 hy with ⟨z, hz, rfl⟩ | ⟨z, hz, rfl⟩ <;> have := sz_L hz
          · exact ⟨_, in_add_L1 hz, (ih z b c (by omega)).1⟩
          · exact ⟨_, in_add_L2 (in_add_L1 hz), (ih a z c (by omega)).1⟩
        · have := sz_L hy
          exact ⟨_, in_add_L2 (in_add_L2 hy), (ih a b y (by omega)).1⟩
      · rcases mem_add_R.1 hy with ⟨z, hz, rfl⟩ | ⟨z, hz, rfl⟩
        · have := sz_R hz
          exact ⟨_, in_add_R1 (in_add_R1 hz), (ih z b c (by omega)).1⟩
        · rcases mem_add_R.1 hz with ⟨w, hw, rfl⟩ | ⟨w, hw, rfl⟩ <;> have := sz_R hw
          · exact ⟨_, in_add_R1 (in_add_R2 hw), (ih a w c (by omega)).1⟩
          · exact ⟨_, in_add_R2 hw, (ih a b w (by omega)).1⟩
    · refine le_of_match (fun x hx => ?_) (fun y hy => ?_)
      · rcases mem_add_L.1 hx with ⟨z, hz, rfl⟩ | ⟨z, hz, rfl⟩
        · have := sz_L hz
          exact ⟨_, in_add_L1 (in_add_L1 hz), (ih z b c (by omega)).2⟩
        · rcases mem_add_L.1 hz with ⟨w, hw, rfl⟩ | ⟨w, hw, rfl⟩ <;> have := sz_L hw
          · exact ⟨_, in_add_L1 (in_add_L2 hw), (ih a w c (by omega)).2⟩
          · exact ⟨_, in_add_L2 hw, (ih a b w (by omega)).2⟩
      · rcases mem_add_R.1 hy with ⟨w, hw, rfl⟩ | ⟨w, hw, rfl⟩
        · rcases mem_add_R.1 hw with ⟨z, hz, rfl⟩ | ⟨z, hz, rfl⟩ <;> have := sz_R hz
          · exact ⟨_, in_add_R1 hz, (ih z b c (by omega)).2⟩
          · exact ⟨_, in_add_R2 (in_add_R1 hz), (ih a z c (by omega)).2⟩
        · have := sz_R hw
          exact ⟨_, in_add_R2 (in_add_R2 hw), (ih a b w (by omega)).2⟩
theorem add_assoc (a b c : Fm) : Eqv (add (add a b) c) (add a (add b c)) := add_assoc_n _ a b c (Nat.le_refl _)
def zero : Fm := .mk [] []
theorem add_zero' (a : Fm) : add a zero = a := by
  refine Fm.ind (C := fun a => add a zero = a) (fun f hl hr => ?_) a
  apply ext
  · rw [add_L]; simp only [zero, Fm.L, List.map_nil, List.append_nil]; exact map_id' hl
  · rw [add_R]; simp only [zero, Fm.R, List.map_nil, List.append_nil]; exact map_id' hr
theorem add_neg (a : Fm) : Eqv (add a (neg a)) zero := by
  refine Fm.ind (C := fun a => Eqv (add a (neg a)) zero) (fun f hl hr => ?_) a
  constructor
  · refine le_iff.2 ⟨fun x hx k => ?_, fun y hy => by simp [zero, Fm.R] at hy⟩
    rcases mem_add_L.1 hx with ⟨y, hy, rfl⟩ | ⟨y, hy, rfl⟩
    · exact k.r (in_add_R2 (y := neg y) (by rw [neg_R]; exact List.mem_map_of_mem hy)) (hl y hy).1
    · rw [neg_L] at hy
      obtain ⟨z, hz, rfl⟩ := List.mem_map.1 hy
      exact k.r (in_add_R1 hz) (hr z hz).1
  · refine le_iff.2 ⟨fun y hy => by simp [zero, Fm.L] at hy, fun x hx k => ?_⟩
    rcases mem_add_R.1 hx with ⟨y, hy, rfl⟩ | ⟨y, hy, rfl⟩
    · exact k.l (in_add_L2 (y := neg y) (by rw [neg_L]; exact List.mem_map_of_mem hy)) (hr y hy).2
    · rw [neg_R] at hy
      obtain ⟨z, hz, rfl⟩ := List.mem_map.1 hy
      exact k.l (in_add_L1 hz) (hl z hz).2
theorem add_le_n : ∀ n a b c, sz a + sz b + sz c ≤ n → (Le a b ↔ Le (add a c) (add b c)) := by
  intro n
  induction n with
  | zero => intro a b c h; have := sz_pos a; omega
  | succ n ih =>
    intro a b c h
    constructor
    · intro hab
      refine le_iff.2 ⟨fun x hx k => ?_, fun x hx k => ?_⟩
      · rcases mem_add_L.1 hx with ⟨y, hy, rfl⟩ | ⟨y, hy, rfl⟩ <;> have := sz_L hy
        · exact hab.l hy ((ih b y c (by omega)).2 k)
        · exact k.l (in_add_L2 hy) ((ih a b y (by omega)).1 hab)
      · rcases mem_add_R.1 hx with ⟨y, hy, rfl⟩ | ⟨y, hy, rfl⟩ <;> have := sz_R hy
        · exact hab.r hy ((ih y a c (by omega)).2 k)
        · exact k.r (in_add_R2 hy) ((ih a b y (by omega)).1 hab)
    · intro k
      refine le_iff.2 ⟨fun x hx j => ?_, fun y hy j => ?_⟩
      · have := sz_L hx; exact k.l (in_add_L1 hx) ((ih b x c (by omega)).1 j)
      · have := sz_R hy; exact k.r (in_add_R1 hy) ((ih y a c (by omega)).1 j)
theorem add_le {a b c : Fm} : Le (add a c) (add b c) ↔ Le a b := (add_le_n _ a b c (Nat.le_refl _)).symm
end Go.Va
end

section
/-
  Plain maths: the texts of forms; two forms with the same text are the same.
-/
set_option linter.unusedVariables false
set_option linter.unusedSimpArgs false
set_option linter.unusedSectionVars false
namespace Go.Va
mutual
def pr : Fm → List UInt8 | .mk l r => 123 :: (prs l ++ 124 :: (prs r ++ [125]))
def prs : List Fm → List UInt8 | [] => [] | x :: l => pr x ++ prt l
def prt : List Fm → List UInt8 | [] => [] | x :: l => 44 :: (pr x ++ prt l)
end
theorem pr_eq (f : Fm) : pr f = 123 :: (prs f.L ++ 124 :: (prs f.R ++ [125])) := by cases f; simp [pr, Fm.L, Fm.R]
def PI (f : Fm) : Prop := ∀ g s t, pr f ++ s = pr g ++ t → f = g ∧ s = t
theorem prt_inj : ∀ (l : List Fm), (∀ x ∈ l, PI x) → ∀ m s t, s.head? ≠ some 44 → t.head? ≠ some 44 → prt l ++ s = prt m ++ t → l = m ∧ s = t
  | [], _, [], s, t, _, _, h => ⟨rfl, by simpa [prt] using h⟩
  | [], _, y :: m, s, t, hs, _, h => by simp only [prt, List.nil_append, List.cons_append] at h; subst h; simp at hs
  | x :: l, _, [], s, t, _, ht, h => by simp only [prt, List.nil_append, List.cons_append] at h; subst h; simp at ht
  | x :: l, hP, y :: m, s, t, hs, ht, h => by
      simp only [prt, List.cons_append, List.cons.injEq, true_and, List.append_assoc] at h
      obtain ⟨rfl, h'⟩ := hP x (by simp) y _ _ h
      obtain ⟨rfl, rfl⟩ := prt_inj l (fun z hz => hP z (by simp [hz])) m s t hs ht h'
      exact ⟨rfl, rfl⟩
theorem prs_inj (l : List Fm) (hP : ∀ x ∈ l, PI x) (m : List Fm) (s t : List UInt8) (hs : s.head? ≠ some 44 ∧ s.head? ≠ some 123) (ht : t.head? ≠ some 44 ∧ t.head? ≠ some 123) (h : prs l ++ s = prs m ++ t) : l = m ∧ s = t := by
  cases l with
  | nil => cases m with
    | nil => exact ⟨rfl, by simpa [prs] using h⟩
    | cons y m => simp only [prs, List.nil_append, pr_eq y, List.cons_append] at h; subst h; simp at hs
  | cons x l => cases m with
    | nil => simp only [prs, List.nil_append, pr_eq x, List.cons_append] at h; subst h; simp at ht
    | cons y m =>
      simp only [prs, List.append_assoc] at h
      obtain ⟨rfl, h'⟩ := hP x (by simp) y _ _ h
      obtain ⟨rfl, rfl⟩ := prt_inj l (fun z hz => hP z (by simp [hz])) m s t hs.1 ht.1 h'
      exact ⟨rfl, rfl⟩
theorem pr_pi (f : Fm) : PI f := by
  refine Fm.ind (C := PI) (fun f hl hr g s t h => ?_) f
  rw [pr_eq f, pr_eq g] at h
  simp only [List.cons_append, List.cons.injEq, true_and, List.append_assoc] at h
  obtain ⟨e1, h⟩ := prs_inj _ hl _ _ _ (by simp) (by simp) h
  simp only [List.cons.injEq, true_and] at h
  obtain ⟨e2, h⟩ := prs_inj _ hr _ _ _ (by simp) (by simp) h
  exact ⟨ext e1 e2, by simpa using h⟩
theorem pr_inj {f g : Fm} (h : pr f = pr g) : f = g := (pr_pi f g [] [] (by simpa using h)).1
theorem pr_inj_iff {f g : Fm} : pr f = pr g ↔ f = g := ⟨pr_inj, fun h => by rw [h]⟩
instance : DecidableEq Fm := fun f g => decidable_of_iff (pr f = pr g) pr_inj_iff
mutual
theorem pr_len : ∀ f : Fm, (pr f).length + 1 ≤ 4 * sz f
  | .mk l r => by have := prs_len l; have := prs_len r; simp only [pr, sz, List.length_cons, List.length_append, List.length_nil]; omega
theorem prs_len : ∀ l : List Fm, (prs l).length ≤ 4 * szs l
  | [] => by simp [prs]
  | x :: l => by have := pr_len x; have := prt_len l; simp only [prs, szs, List.length_append]; omega
theorem prt_len : ∀ l : List Fm, (prt l).length ≤ 4 * szs l
  | [] => by simp [prt]
  | x :: l => by have := pr_len x; have := prt_len l; simp only [prt, szs, List.length_cons, List.length_append]; omega
end
end Go.Va
end

section
/-
  Plain maths: reversible options are bypassed, dominated ones left out; what stays is alike in value.
-/
set_option linter.unusedVariables false
set_option linter.unusedSimpArgs false
set_option linter.unusedSectionVars false
namespace Go.Va
/-- The first reversible option L (of those behind pre) bypassed, if there is one. -/
def byp (w : Fm) : List Fm → List Fm → Option (List Fm)
  | _, [] => none
  | pre, x :: l => match x.R.find? (fun z => leq z w) with
    | some z => some (pre ++ z.L ++ l)
    | none => byp w (pre ++ [x]) l
def tur (w : Fm) : List Fm → List Fm → Option (List Fm)
  | _, [] => none
  | pre, x :: l => match x.L.find? (fun z => leq w z) with
    | some z => some (pre ++ z.R ++ l)
    | none => tur w (pre ++ [x]) l
theorem byp_some {w : Fm} : ∀ {l pre m : List Fm}, byp w pre l = some m → ∃ a x z b, l = a ++ x :: b ∧ z ∈ x.R ∧ Le z w ∧ m = pre ++ a ++ z.L ++ b
  | [], pre, m, h => by simp [byp] at h
  | x :: l, pre, m, h => by
      simp only [byp] at h
      split at h
      · rename_i z hz
        exact ⟨[], x, z, l, rfl, List.mem_of_find?_eq_some hz, (List.find?_some hz : _), by simpa using h.symm⟩
      · obtain ⟨a, y, z, b, rfl, h1, h2, rfl⟩ := byp_some h
        exact ⟨x :: a, y, z, b, rfl, h1, h2, by simp⟩
theorem byp_none {w : Fm} : ∀ {l pre : List Fm}, byp w pre l = none → ∀ x ∈ l, ∀ z ∈ x.R, ¬ Le z w
  | [], _, _ => by simp
  | x :: l, pre, h => by
      simp only [byp] at h
      split at h
      · simp at h
      · rename_i hz
        rw [List.find?_eq_none] at hz
        intro y hy
        rcases List.mem_cons.1 hy with rfl | hy
        · exact fun z hz' k => hz z hz' k
        · exact byp_none h y hy
theorem tur_some {w : Fm} : ∀ {l pre m : List Fm}, tur w pre l = some m → ∃ a x z b, l = a ++ x :: b ∧ z ∈ x.L ∧ Le w z ∧ m = pre ++ a ++ z.R ++ b
  | [], pre, m, h => by simp [tur] at h
  | x :: l, pre, m, h => by
      simp only [tur] at h
      split at h
      · rename_i z hz
        exact ⟨[], x, z, l, rfl, List.mem_of_find?_eq_some hz, (List.find?_some hz : _), by simpa using h.symm⟩
      · obtain ⟨a, y, z, b, rfl, h1, h2, rfl⟩ := tur_some h
        exact ⟨x :: a, y, z, b, rfl, h1, h2, by simp⟩
theorem tur_none {w : Fm} : ∀ {l pre : List Fm}, tur w pre l = none → ∀ x ∈ l, ∀ z ∈ x.L, ¬ Le w z
  | [], _, _ => by simp
  | x :: l, pre, h => by
      simp only [tur] at h
      split at h
      · simp at h
      · rename_i hz
        rw [List.find?_eq_none] at hz
        intro y hy
        rcases List.mem_cons.1 hy with rfl | hy
        · exact fun z hz' k => hz z hz' k
        · exact tur_none h y hy
theorem mkL (l r : List Fm) : (Fm.mk l r).L = l := rfl
theorem mkR (l r : List Fm) : (Fm.mk l r).R = r := rfl
theorem byp_eqv {a b r : List Fm} {x z : Fm} (hz : z ∈ x.R) (h : Le z (.mk (a ++ x :: b) r)) : Eqv (.mk (a ++ x :: b) r) (.mk (a ++ z.L ++ b) r) := by
  constructor
  · refine le_iff.2 ⟨fun y hy k => ?_, fun y hy k => ?_⟩
    · rw [mkL] at hy
      have : y = x ∨ y ∈ a ++ z.L ++ b := by simp at hy ⊢; rcases hy with h | h | h <;> simp [h]
      rcases this with rfl | hy
      · refine k.r hz (le_iff.2 ⟨fun u hu k' => ?_, fun u hu k' => ?_⟩)
        · exact not_le_L (a := .mk (a ++ z.L ++ b) r) (by rw [mkL]; simp [hu]) k'
        · exact not_le_R (a := .mk (a ++ y :: b) r) (by rw [mkR] at hu ⊢; exact hu) (k'.trans h)
      · exact not_le_L (a := .mk (a ++ z.L ++ b) r) (by rw [mkL]; exact hy) k
    · exact not_le_R (a := .mk (a ++ x :: b) r) (by rw [mkR] at hy ⊢; exact hy) k
  · refine le_iff.2 ⟨fun y hy k => ?_, fun y hy k => ?_⟩
    · rw [mkL] at hy
      have : y ∈ a ++ x :: b ∨ y ∈ z.L := by simp at hy ⊢; rcases hy with h | h | h <;> simp [h]
      rcases this with hy | hy
      · exact not_le_L (a := .mk (a ++ x :: b) r) (by rw [mkL]; exact hy) k
      · exact h.l hy k
    · exact not_le_R (a := .mk (a ++ z.L ++ b) r) (by rw [mkR] at hy ⊢; exact hy) k
theorem tur_eqv {a b l : List Fm} {x z : Fm} (hz : z ∈ x.L) (h : Le (.mk l (a ++ x :: b)) z) : Eqv (.mk l (a ++ x :: b)) (.mk l (a ++ z.R ++ b)) := by
  constructor
  · refine le_iff.2 ⟨fun y hy k => ?_, fun y hy k => ?_⟩
    · exact not_le_L (a := .mk l (a ++ z.R ++ b)) (by rw [mkL] at hy ⊢; exact hy) k
    · rw [mkR] at hy
      have : y ∈ a ++ x :: b ∨ y ∈ z.R := by simp at hy ⊢; rcases hy with h | h | h <;> simp [h]
      rcases this with hy | hy
      · exact not_le_R (a := .mk l (a ++ x :: b)) (by rw [mkR]; exact hy) k
      · exact h.r hy k
  · refine le_iff.2 ⟨fun y hy k => ?_, fun y hy k => ?_⟩
    · exact not_le_L (a := .mk l (a ++ x :: b)) (by rw [mkL] at hy ⊢; exact hy) k
    · rw [mkR] at hy
      have : y = x ∨ y ∈ a ++ z.R ++ b := by simp at hy ⊢; rcases hy with h | h | h <;> simp [h]
      rcases this with rfl | hy
      · refine k.l hz (le_iff.2 ⟨fun u hu k' => ?_, fun u hu k' => ?_⟩)
        · exact not_le_L (a := .mk l (a ++ y :: b)) (by rw [mkL] at hu ⊢; exact hu) (h.trans k')
        · exact not_le_R (a := .mk l (a ++ z.R ++ b)) (by rw [mkR]; simp [hu]) k'
      · exact not_le_R (a := .mk l (a ++ z.R ++ b)) (by rw [mkR]; exact hy) k

/-! ### All bypassed -/
def loop : Nat → List Fm → List Fm → List Fm × List Fm
  | 0, l, r => (l, r)
  | n + 1, l, r => match byp (.mk l r) [] l with
    | some m => loop n m r
    | none => match tur (.mk l r) [] r with
      | some m => loop n l m
      | none => (l, r)
structure Loops (C : Fm → Prop) (l r : List Fm) (p : List Fm × List Fm) : Prop where
  eqv : Eqv (.mk l r) (.mk p.1 p.2)
  nl : ∀ x ∈ p.1, ∀ z ∈ x.R, ¬ Le z (.mk p.1 p.2)
  nr : ∀ x ∈ p.2, ∀ z ∈ x.L, ¬ Le (.mk p.1 p.2) z
  sz : szs p.1 + szs p.2 ≤ szs l + szs r
  cl : ∀ x ∈ p.1, C x
  cr : ∀ x ∈ p.2, C x
theorem loop_ok {C : Fm → Prop} (hC : ∀ f, C f → (∀ x ∈ f.L, C x) ∧ (∀ x ∈ f.R, C x)) : ∀ n l r, szs l + szs r ≤ n → (∀ x ∈ l, C x) → (∀ x ∈ r, C x) → Loops C l r (loop (n + 1) l r) := by
  intro n
  induction n with
  | zero =>
    intro l r h hl hr
    have hl0 : l = [] := by cases l with | nil => rfl | cons x l => have := sz_pos x; simp only [szs] at h; omega
    have hr0 : r = [] := by cases r with | nil => rfl | cons x l => have := sz_pos x; simp only [szs] at h; omega
    subst hl0; subst hr0
    exact ⟨.refl _, by simp [loop, byp, tur], by simp [loop, byp, tur], by simp [loop, byp, tur], by simp [loop, byp, tur], by simp [loop, byp, tur]⟩
  | succ n ih =>
    intro l r h hl hr
    rw [loop]
    split
    · rename_i m hm
      obtain ⟨a, x, z, b, rfl, hz, hle, rfl⟩ := byp_some hm
      have e := byp_eqv hz hle
      have hx := hC x (hl x (by simp))
      have hzC := hC z (hx.2 z hz)
      have s1 := sz_R hz
      have s2 := sz_eq z
      have s3 : szs ([] ++ a ++ z.L ++ b) + szs r < szs (a ++ x :: b) + szs r := by
        simp only [szs_app, szs, List.nil_append]; omega
      have k := ih ([] ++ a ++ z.L ++ b) r (by omega) (by
        intro y hy
        have : y ∈ a ++ x :: b ∨ y ∈ z.L := by simp at hy ⊢; rcases hy with h | h | h <;> simp [h]
        exact this.elim (hl y) (hzC.1 y)) hr
      rw [List.nil_append] at k s3
      rw [List.nil_append]
      exact ⟨e.trans k.eqv, k.nl, k.nr, by have := k.sz; omega, k.cl, k.cr⟩
    · rename_i hm
      split
      · rename_i m hm'
        obtain ⟨a, x, z, b, rfl, hz, hle, rfl⟩ := tur_some hm'
        have e := tur_eqv hz hle
        have hx := hC x (hr x (by simp))
        have hzC := hC z (hx.1 z hz)
        have s1 := sz_L hz
        have s2 := sz_eq z
        have s3 : szs l + szs ([] ++ a ++ z.R ++ b) < szs l + szs (a ++ x :: b) := by
          simp only [szs_app, szs, List.nil_append]; omega
        have k := ih l ([] ++ a ++ z.R ++ b) (by omega) hl (by
          intro y hy
          have : y ∈ a ++ x :: b ∨ y ∈ z.R := by simp at hy ⊢; rcases hy with h | h | h <;> simp [h]
          exact this.elim (hr y) (hzC.2 y))
        rw [List.nil_append] at k s3
        rw [List.nil_append]
        exact ⟨e.trans k.eqv, k.nl, k.nr, by have := k.sz; omega, k.cl, k.cr⟩
      · rename_i hm'
        exact ⟨.refl _, byp_none hm, tur_none hm', Nat.le_refl _, hl, hr⟩
end Go.Va
end

section
/-
  Plain maths: what stays of a list behind domination; canonical forms are unique.
-/
set_option linter.unusedVariables false
set_option linter.unusedSimpArgs false
set_option linter.unusedSectionVars false
namespace Go.Va
/-- Item k stands in the way of item i. -/
def dom (wo : Fm → Fm → Bool) (p q : Fm × Nat) : Bool := decide (q.2 ≠ p.2) && wo p.1 q.1 && (decide (q.2 < p.2) || !wo q.1 p.1)
def bestI (wo : Fm → Fm → Bool) (l : List (Fm × Nat)) : List (Fm × Nat) := l.filter fun p => !l.any (dom wo p)
def best (wo : Fm → Fm → Bool) (l : List Fm) : List Fm := (bestI wo l.zipIdx).map (·.1)
theorem countP_lt {α : Type} {p q : α → Bool} : ∀ {l : List α}, (∀ x ∈ l, p x = true → q x = true) → (∃ x ∈ l, q x = true ∧ p x = false) → l.countP p < l.countP q
  | [], _, h => by obtain ⟨x, hx, _⟩ := h; cases hx
  | y :: l, h, ⟨x, hx, hq, hp⟩ => by
      rw [List.countP_cons, List.countP_cons]
      have hle : l.countP p ≤ l.countP q := List.countP_mono_left fun z hz => h z (by simp [hz])
      rcases List.mem_cons.1 hx with rfl | hx
      · rw [hq, hp]; simp; omega
      · have := countP_lt (fun z hz => h z (by simp [hz])) ⟨x, hx, hq, hp⟩
        have hy := h y (by simp)
        cases e : p y <;> cases e' : q y <;> simp_all <;> omega
structure Pre (wo : Fm → Fm → Bool) : Prop where
  refl : ∀ x, wo x x = true
  trans : ∀ x y z, wo x y = true → wo y z = true → wo x z = true
theorem pre_le : Pre leq := ⟨le_refl, fun _ _ _ h k => Le.trans h k⟩
theorem pre_ge : Pre (fun x y => leq y x) := ⟨le_refl, fun _ _ _ h k => Le.trans k h⟩
theorem dom_iff {wo : Fm → Fm → Bool} {p q : Fm × Nat} : dom wo p q = true ↔ q.2 ≠ p.2 ∧ wo p.1 q.1 = true ∧ (q.2 < p.2 ∨ wo q.1 p.1 = false) := by
  unfold dom; simp [and_assoc]
theorem dom_trans {wo : Fm → Fm → Bool} (hw : Pre wo) {p q r : Fm × Nat} (he : r.2 = p.2 → r = p) (h : dom wo p q = true) (k : dom wo q r = true) : dom wo p r = true := by
  rw [dom_iff] at *
  obtain ⟨h1, h2, h3⟩ := h
  obtain ⟨k1, k2, k3⟩ := k
  have t := hw.trans _ _ _ h2 k2
  by_cases hr : wo r.1 p.1 = true
  · have a1 : wo q.1 p.1 = true := hw.trans _ _ _ k2 hr
    have a2 : wo r.1 q.1 = true := hw.trans _ _ _ hr h2
    rw [a1] at h3; rw [a2] at k3
    simp at h3 k3
    exact ⟨by omega, t, .inl (by omega)⟩
  · have hr' : wo r.1 p.1 = false := by simpa using hr
    refine ⟨fun e => ?_, t, .inr hr'⟩
    rw [he e, hw.refl] at hr; exact hr rfl
theorem best_dom {wo : Fm → Fm → Bool} (hw : Pre wo) (l : List (Fm × Nat)) (hl : ∀ p ∈ l, ∀ q ∈ l, p.2 = q.2 → p = q) : ∀ n, ∀ p ∈ l, l.countP (dom wo p) ≤ n → ∃ q ∈ bestI wo l, wo p.1 q.1 = true := by
  intro n
  induction n with
  | zero =>
    intro p hp h
    refine ⟨p, ?_, hw.refl _⟩
    unfold bestI
    rw [List.mem_filter]
    refine ⟨hp, ?_⟩
    simp only [Nat.le_zero, List.countP_eq_zero] at h
    simpa using h
  | succ n ih =>
    intro p hp h
    by_cases hk : p ∈ bestI wo l
    · exact ⟨p, hk, hw.refl _⟩
    · unfold bestI at hk
      rw [List.mem_filter] at hk
      have : ∃ q ∈ l, dom wo p q = true := by
        simp only [hp, true_and, Bool.not_eq_true', Bool.not_eq_false, List.any_eq_true] at hk
        exact hk
      obtain ⟨q, hq, hd⟩ := this
      have lt : l.countP (dom wo q) < l.countP (dom wo p) := countP_lt (fun r hr h' => dom_trans hw (fun e => hl _ hr _ hp e) hd h') ⟨q, hq, hd, by
        unfold dom; simp⟩
      obtain ⟨r, hr, hw'⟩ := ih q hq (by omega)
      exact ⟨r, hr, hw.trans _ _ _ (dom_iff.1 hd).2.1 hw'⟩
theorem idx_inj {l : List Fm} {p q : Fm × Nat} (hp : p ∈ l.zipIdx) (hq : q ∈ l.zipIdx) (e : p.2 = q.2) : p = q := by
  obtain ⟨a, i⟩ := p; obtain ⟨b, j⟩ := q
  rw [List.mem_zipIdx_iff_getElem?] at hp hq
  dsimp only at e hp hq; subst e
  rw [hp] at hq; injection hq with hq; rw [hq]
theorem best_mem {wo : Fm → Fm → Bool} {l : List Fm} {x : Fm} (h : x ∈ best wo l) : x ∈ l := by
  unfold best bestI at h
  obtain ⟨p, hp, rfl⟩ := List.mem_map.1 h
  have := (List.mem_filter.1 hp).1
  obtain ⟨a, i⟩ := p
  exact List.mem_of_getElem? (List.mem_zipIdx_iff_getElem?.1 this)
/-- Each option is at most one that stays. -/
theorem best_above {wo : Fm → Fm → Bool} (hw : Pre wo) {l : List Fm} {x : Fm} (hx : x ∈ l) : ∃ y ∈ best wo l, wo x y = true := by
  obtain ⟨i, hi⟩ := List.getElem?_of_mem hx
  obtain ⟨q, hq, h⟩ := best_dom hw l.zipIdx (fun p hp q hq e => idx_inj hp hq e) _ (x, i) (List.mem_zipIdx_iff_getElem?.2 hi) (Nat.le_refl _)
  exact ⟨q.1, List.mem_map_of_mem hq, h⟩
theorem zipIdx_pair (l : List Fm) : ∀ n, (l.zipIdx n).Pairwise (fun p q => p.2 < q.2) := by
  induction l with
  | nil => intro n; simp
  | cons x l ih =>
    intro n
    rw [List.zipIdx_cons, List.pairwise_cons]
    refine ⟨fun q hq => ?_, ih _⟩
    have := List.le_snd_of_mem_zipIdx hq
    dsimp only; omega
/-- No two that stay are one at most the other. -/
theorem best_pair {wo : Fm → Fm → Bool} (l : List Fm) : (best wo l).Pairwise (fun x y => wo x y = false ∧ wo y x = false) := by
  unfold best
  rw [List.pairwise_map]
  have h : (bestI wo l.zipIdx).Pairwise (fun p q => p.2 < q.2) := (zipIdx_pair l 0).sublist List.filter_sublist
  refine h.imp_of_mem fun {p q} hp hq hlt => ?_
  unfold bestI at hp hq
  rw [List.mem_filter] at hp hq
  have a1 : dom wo q p = false := by have := hq.2; simp only [Bool.not_eq_true', List.any_eq_false] at this; simpa using this p hp.1
  have a2 : dom wo p q = false := by have := hp.2; simp only [Bool.not_eq_true', List.any_eq_false] at this; simpa using this q hq.1
  have c1 : wo q.1 p.1 = false := by
    cases e : wo q.1 p.1
    · rfl
    · exfalso; rw [← Bool.not_eq_true, dom_iff] at a1; exact a1 ⟨by omega, e, .inl hlt⟩
  refine ⟨?_, c1⟩
  cases e : wo p.1 q.1
  · rfl
  · exfalso; rw [← Bool.not_eq_true, dom_iff] at a2; exact a2 ⟨by omega, e, .inr c1⟩
theorem szs_sublist {l m : List Fm} (h : l.Sublist m) : szs l ≤ szs m := by
  induction h with
  | slnil => exact Nat.le_refl _
  | cons x _ ih => simp only [szs]; omega
  | cons_cons x _ ih => simp only [szs]; omega
theorem best_sublist (wo : Fm → Fm → Bool) (l : List Fm) : (best wo l).Sublist l := by
  unfold best bestI
  have h : (l.zipIdx.filter fun p => !l.zipIdx.any (dom wo p)).Sublist l.zipIdx := List.filter_sublist
  have := h.map (·.1)
  rwa [show l.zipIdx.map (·.1) = l from List.zipIdx_map_fst 0 l] at this
end Go.Va
end

section
/-
  Plain maths: canonical forms: they are unique, alike in value, not larger.
-/
set_option linter.unusedVariables false
set_option linter.unusedSimpArgs false
set_option linter.unusedSectionVars false
namespace Go.Va
def tlt (a b : List UInt8) : Bool := decide (a < b)
theorem tlt_irrefl (a : List UInt8) : tlt a a = false := by unfold tlt; exact decide_eq_false (List.lt_irrefl a)
theorem tlt_trans {a b c : List UInt8} (h : tlt a b = true) (k : tlt b c = true) : tlt a c = true := by
  unfold tlt at *; simp only [decide_eq_true_eq] at *; exact List.lt_trans h k
theorem tlt_tri {a b : List UInt8} (h : tlt a b = false) (k : tlt b a = false) : a = b := by
  unfold tlt at *; simp only [decide_eq_false_iff_not] at *
  exact List.le_antisymm (List.not_lt.1 k) (List.not_lt.1 h)
def ins (x : Fm) : List Fm → List Fm
  | [] => [x]
  | y :: l => if tlt (pr y) (pr x) then y :: ins x l else x :: y :: l
def sortT : List Fm → List Fm
  | [] => []
  | x :: l => ins x (sortT l)
def Srt (l : List Fm) : Prop := l.Pairwise fun x y => tlt (pr x) (pr y) = true
theorem ins_perm (x : Fm) : ∀ l, (ins x l).Perm (x :: l)
  | [] => .refl _
  | y :: l => by
      unfold ins
      split
      · exact ((ins_perm x l).cons y).trans (.swap _ _ _)
      · exact .refl _
theorem sortT_perm : ∀ l, (sortT l).Perm l
  | [] => .refl _
  | x :: l => (ins_perm x _).trans ((sortT_perm l).cons x)
theorem ins_srt (x : Fm) : ∀ l, Srt l → (∀ y ∈ l, y ≠ x) → Srt (ins x l)
  | [], _, _ => List.pairwise_singleton _ _
  | y :: l, h, hn => by
      unfold Srt at h
      rw [List.pairwise_cons] at h
      unfold ins Srt
      split
      · rename_i hlt
        rw [List.pairwise_cons]
        refine ⟨fun z hz => ?_, ins_srt x l h.2 fun z hz => hn z (by simp [hz])⟩
        rcases List.mem_cons.1 ((ins_perm x l).mem_iff.1 hz) with rfl | hz
        · exact hlt
        · exact h.1 z hz
      · rename_i hlt
        have hxy : tlt (pr x) (pr y) = true := by
          cases e : tlt (pr x) (pr y)
          · exact absurd (pr_inj (tlt_tri (by simpa using hlt) e)) (hn y (by simp))
          · rfl
        rw [List.pairwise_cons]
        refine ⟨fun z hz => ?_, List.pairwise_cons.2 h⟩
        rcases List.mem_cons.1 hz with rfl | hz
        · exact hxy
        · exact tlt_trans hxy (h.1 z hz)
theorem sortT_srt : ∀ l : List Fm, l.Nodup → Srt (sortT l)
  | [], _ => .nil
  | x :: l, h => by
      rw [List.nodup_cons] at h
      exact ins_srt x _ (sortT_srt l h.2) fun y hy e => h.1 (by rw [← e]; exact (sortT_perm l).mem_iff.1 hy)
theorem srt_ext : ∀ {l m : List Fm}, Srt l → Srt m → (∀ x, x ∈ l ↔ x ∈ m) → l = m
  | [], [], _, _, _ => rfl
  | [], y :: m, _, _, h => by have := (h y).2 (by simp); cases this
  | x :: l, [], _, _, h => by have := (h x).1 (by simp); cases this
  | x :: l, y :: m, hl, hm, h => by
      have hl' := List.pairwise_cons.1 hl
      have hm' := List.pairwise_cons.1 hm
      have e : x = y := by
        rcases List.mem_cons.1 ((h x).1 (by simp)) with e | hx
        · exact e
        · rcases List.mem_cons.1 ((h y).2 (by simp)) with e | hy
          · exact e.symm
          · have := tlt_trans (hm'.1 x hx) (hl'.1 y hy)
            rw [tlt_irrefl] at this; cases this
      subst e
      congr 1
      refine srt_ext hl'.2 hm'.2 fun z => ⟨fun hz => ?_, fun hz => ?_⟩
      · rcases List.mem_cons.1 ((h z).1 (by simp [hz])) with rfl | hz'
        · have := hl'.1 z hz; rw [tlt_irrefl] at this; cases this
        · exact hz'
      · rcases List.mem_cons.1 ((h z).2 (by simp [hz])) with rfl | hz'
        · have := hm'.1 z hz; rw [tlt_irrefl] at this; cases this
        · exact hz'

/-! ### Canonical forms -/
structure Loc (f : Fm) : Prop where
  nl : ∀ x ∈ f.L, ∀ z ∈ x.R, ¬ Le z f
  nr : ∀ x ∈ f.R, ∀ z ∈ x.L, ¬ Le f z
  dl : ∀ x ∈ f.L, ∀ y ∈ f.L, Le x y → x = y
  dr : ∀ x ∈ f.R, ∀ y ∈ f.R, Le x y → x = y
  sl : Srt f.L
  sr : Srt f.R
inductive Can : Fm → Prop
  | mk (f : Fm) (hl : ∀ x ∈ f.L, Can x) (hr : ∀ x ∈ f.R, Can x) (h : Loc f) : Can f
theorem Can.l {f : Fm} (h : Can f) : ∀ x ∈ f.L, Can x := by cases h; assumption
theorem Can.r {f : Fm} (h : Can f) : ∀ x ∈ f.R, Can x := by cases h; assumption
theorem Can.loc {f : Fm} (h : Can f) : Loc f := by cases h; assumption
theorem opt_l {f g : Fm} (hg : Loc f) (e : Eqv f g) {x : Fm} (hx : x ∈ f.L) : ∃ y ∈ g.L, Le x y := by
  have h := e.1.l hx
  rw [le_iff] at h
  by_cases hh : ∃ y ∈ g.L, Le x y
  · exact hh
  · exfalso; apply h
    exact ⟨fun y hy k => hh ⟨y, hy, k⟩, fun z hz k => hg.nl x hx z hz (k.trans e.2)⟩
theorem opt_r {f g : Fm} (hg : Loc f) (e : Eqv f g) {x : Fm} (hx : x ∈ f.R) : ∃ y ∈ g.R, Le y x := by
  have h := e.2.r hx
  rw [le_iff] at h
  by_cases hh : ∃ y ∈ g.R, Le y x
  · exact hh
  · exfalso; apply h
    exact ⟨fun z hz k => hg.nr x hx z hz (e.1.trans k), fun y hy k => hh ⟨y, hy, k⟩⟩
theorem can_unique_n : ∀ n f g, sz f ≤ n → Can f → Can g → Eqv f g → f = g := by
  intro n
  induction n with
  | zero => intro f g h; have := sz_pos f; omega
  | succ n ih =>
    intro f g h hf hg e
    have L1 : ∀ x ∈ f.L, x ∈ g.L := fun x hx => by
      obtain ⟨y, hy, k⟩ := opt_l hf.loc e hx
      obtain ⟨z, hz, k'⟩ := opt_l hg.loc e.symm hy
      have exz := hf.loc.dl x hx z hz (k.trans k')
      subst exz
      rw [ih x y (by have := sz_L hx; omega) (hf.l x hx) (hg.l y hy) ⟨k, k'⟩]; exact hy
    have R1 : ∀ x ∈ f.R, x ∈ g.R := fun x hx => by
      obtain ⟨y, hy, k⟩ := opt_r hf.loc e hx
      obtain ⟨z, hz, k'⟩ := opt_r hg.loc e.symm hy
      have exz := hf.loc.dr z hz x hx (k'.trans k)
      subst exz
      rw [ih z y (by have := sz_R hx; omega) (hf.r z hx) (hg.r y hy) ⟨k', k⟩]; exact hy
    have L2 : ∀ y ∈ g.L, y ∈ f.L := fun y hy => by
      obtain ⟨x, hx, k⟩ := opt_l hg.loc e.symm hy
      obtain ⟨z, hz, k'⟩ := opt_l hf.loc e hx
      have exz := hg.loc.dl y hy z hz (k.trans k')
      subst exz
      rw [← ih x y (by have := sz_L hx; omega) (hf.l x hx) (hg.l y hy) ⟨k', k⟩]; exact hx
    have R2 : ∀ y ∈ g.R, y ∈ f.R := fun y hy => by
      obtain ⟨x, hx, k⟩ := opt_r hg.loc e.symm hy
      obtain ⟨z, hz, k'⟩ := opt_r hf.loc e hx
      have exz := hg.loc.dr z hz y hy (k'.trans k)
      subst exz
      rw [← ih x z (by have := sz_R hx; omega) (hf.r x hx) (hg.r z hy) ⟨k, k'⟩]; exact hx
    exact ext (srt_ext hf.loc.sl hg.loc.sl fun x => ⟨L1 x, L2 x⟩) (srt_ext hf.loc.sr hg.loc.sr fun x => ⟨R1 x, R2 x⟩)
theorem can_unique {f g : Fm} (hf : Can f) (hg : Can g) (e : Eqv f g) : f = g := can_unique_n _ f g (Nat.le_refl _) hf hg e
end Go.Va
end

section
/-
  Plain maths: the canonical form of a form.
-/
set_option linter.unusedVariables false
set_option linter.unusedSimpArgs false
set_option linter.unusedSectionVars false
namespace Go.Va
/-- The canonical form out of the canonical forms of the options. -/
def fin (l r : List Fm) : Fm :=
  let p := loop (szs l + szs r + 1) l r
  .mk (sortT (best leq p.1)) (sortT (best (fun x y => leq y x) p.2))
mutual
def canon : Fm → Fm | .mk l r => fin (canons l) (canons r)
def canons : List Fm → List Fm | [] => [] | x :: l => canon x :: canons l
end
theorem canons_map (l : List Fm) : canons l = l.map canon := by
  induction l with
  | nil => rfl
  | cons x l ih => simp only [canons, ih, List.map_cons]
theorem canon_eq (f : Fm) : canon f = fin (f.L.map canon) (f.R.map canon) := by cases f; simp [canon, canons_map, Fm.L, Fm.R]
theorem szs_perm {l m : List Fm} (h : l.Perm m) : szs l = szs m := by
  induction h with
  | nil => rfl
  | cons x _ ih => simp only [szs, ih]
  | swap x y l => simp only [szs]; omega
  | trans _ _ a b => rw [a, b]
theorem sortT_mem {l : List Fm} {x : Fm} : x ∈ sortT l ↔ x ∈ l := (sortT_perm l).mem_iff
theorem best_nodup {wo : Fm → Fm → Bool} (hw : Pre wo) (l : List Fm) : (best wo l).Nodup :=
  (best_pair l).imp fun {x y} h e => by subst e; rw [hw.refl] at h; exact absurd h.1 (by simp)
theorem best_eq_of {wo : Fm → Fm → Bool} (hw : Pre wo) {l : List Fm} {x y : Fm} (hx : x ∈ best wo l) (hy : y ∈ best wo l) (h : wo x y = true) : x = y := by
  obtain ⟨i, hi⟩ := List.getElem?_of_mem hx
  obtain ⟨j, hj⟩ := List.getElem?_of_mem hy
  obtain ⟨hi', rfl⟩ := List.getElem?_eq_some_iff.1 hi
  obtain ⟨hj', rfl⟩ := List.getElem?_eq_some_iff.1 hj
  have hp := List.pairwise_iff_getElem.1 (best_pair (wo := wo) l)
  rcases Nat.lt_trichotomy i j with k | k | k
  · have := (hp i j hi' hj' k).1; rw [h] at this; cases this
  · subst k; rfl
  · have := (hp j i hj' hi' k).2; rw [h] at this; cases this
theorem fin_ok {l r : List Fm} (hl : ∀ x ∈ l, Can x) (hr : ∀ x ∈ r, Can x) : Can (fin l r) ∧ Eqv (.mk l r) (fin l r) ∧ sz (fin l r) ≤ 1 + szs l + szs r := by
  have k := loop_ok (C := Can) (fun f h => ⟨h.l, h.r⟩) (szs l + szs r) l r (Nat.le_refl _) hl hr
  unfold fin
  generalize loop (szs l + szs r + 1) l r = p at *
  dsimp only
  have e : Eqv (.mk p.1 p.2) (.mk (sortT (best leq p.1)) (sortT (best (fun x y => leq y x) p.2))) := by
    constructor
    · refine le_of_match (fun x hx => ?_) (fun y hy => ?_)
      · obtain ⟨y, hy, h⟩ := best_above pre_le hx
        exact ⟨y, sortT_mem.2 hy, h⟩
      · exact ⟨y, best_mem (sortT_mem.1 hy), le_refl _⟩
    · refine le_of_match (fun x hx => ?_) (fun y hy => ?_)
      · exact ⟨x, best_mem (sortT_mem.1 hx), le_refl _⟩
      · obtain ⟨x, hx, h⟩ := best_above pre_ge hy
        exact ⟨x, sortT_mem.2 hx, h⟩
  refine ⟨.mk _ (fun x hx => k.cl x (best_mem (sortT_mem.1 hx))) (fun x hx => k.cr x (best_mem (sortT_mem.1 hx))) ⟨?_, ?_, ?_, ?_, ?_, ?_⟩, k.eqv.trans e, ?_⟩
  · exact fun x hx z hz h => k.nl x (best_mem (sortT_mem.1 hx)) z hz (h.trans e.2)
  · exact fun x hx z hz h => k.nr x (best_mem (sortT_mem.1 hx)) z hz (e.1.trans h)
  · exact fun x hx y hy h => best_eq_of pre_le (sortT_mem.1 hx) (sortT_mem.1 hy) h
  · exact fun x hx y hy h => (best_eq_of pre_ge (sortT_mem.1 hy) (sortT_mem.1 hx) h).symm
  · exact sortT_srt _ (best_nodup pre_le _)
  · exact sortT_srt _ (best_nodup pre_ge _)
  · rw [sz_eq, mkL, mkR, szs_perm (sortT_perm _), szs_perm (sortT_perm _)]
    have a := szs_sublist (best_sublist leq p.1)
    have b := szs_sublist (best_sublist (fun x y => leq y x) p.2)
    have := k.sz
    omega
theorem szs_map_le {g : Fm → Fm} : ∀ {l : List Fm}, (∀ x ∈ l, sz (g x) ≤ sz x) → szs (l.map g) ≤ szs l
  | [], _ => Nat.le_refl _
  | x :: l, h => by simp only [List.map_cons, szs]; have := h x (by simp); have := szs_map_le (g := g) (l := l) fun y hy => h y (by simp [hy]); omega
theorem canon_ok (f : Fm) : Can (canon f) ∧ Eqv f (canon f) ∧ sz (canon f) ≤ sz f := by
  refine Fm.ind (C := fun f => Can (canon f) ∧ Eqv f (canon f) ∧ sz (canon f) ≤ sz f) (fun f hl hr => ?_) f
  have k := fin_ok (l := f.L.map canon) (r := f.R.map canon)
    (fun x hx => by obtain ⟨y, hy, rfl⟩ := List.mem_map.1 hx; exact (hl y hy).1)
    (fun x hx => by obtain ⟨y, hy, rfl⟩ := List.mem_map.1 hx; exact (hr y hy).1)
  rw [← canon_eq] at k
  refine ⟨k.1, Eqv.trans ⟨?_, ?_⟩ k.2.1, ?_⟩
  · refine le_of_match (fun x hx => ⟨canon x, by rw [mkL]; exact List.mem_map_of_mem hx, (hl x hx).2.1.1⟩) (fun y hy => ?_)
    rw [mkR] at hy; obtain ⟨z, hz, rfl⟩ := List.mem_map.1 hy
    exact ⟨z, hz, (hr z hz).2.1.1⟩
  · refine le_of_match (fun x hx => ?_) (fun y hy => ⟨canon y, by rw [mkR]; exact List.mem_map_of_mem hy, (hr y hy).2.1.2⟩)
    rw [mkL] at hx; obtain ⟨z, hz, rfl⟩ := List.mem_map.1 hx
    exact ⟨z, hz, (hl z hz).2.1.2⟩
  · have a := szs_map_le (g := canon) (l := f.L) fun x hx => (hl x hx).2.2
    have b := szs_map_le (g := canon) (l := f.R) fun x hx => (hr x hx).2.2
    have := k.2.2
    rw [sz_eq f]; omega
theorem canon_of_can {f : Fm} (h : Can f) : canon f = f := (can_unique h (canon_ok f).1 (canon_ok f).2.1).symm
theorem canon_iff (f g : Fm) : Eqv f g ↔ canon f = canon g := by
  constructor
  · exact fun h => can_unique (canon_ok f).1 (canon_ok g).1 ((canon_ok f).2.1.symm.trans (h.trans (canon_ok g).2.1))
  · intro h; exact (canon_ok f).2.1.trans (h ▸ (canon_ok g).2.1.symm)
end Go.Va
end

section
/-
  Dyadic fractions, plainly.
-/
namespace Go.Dy

/-- A pair without its factors of two, at most e of them. -/
def strip : Nat → Int → Int × Nat
  | 0, n => (n, 0)
  | e + 1, n => if n % 2 = 0 then strip e (n / 2) else (n, e + 1)

def validB (n e : Int) : Bool := decide (0 ≤ e ∧ e ≤ 30 ∧ -1099511627776 ≤ n ∧ n ≤ 1099511627776 ∧ (e = 0 ∨ n % 2 = 1))
def Valid (n : Int) (e : Nat) : Prop := e ≤ 30 ∧ -1099511627776 ≤ n ∧ n ≤ 1099511627776 ∧ (e = 0 ∨ n % 2 = 1)

/-- What Make gives: numerator, exponent, error. -/
def made (n e : Int) : Int × Int × Int :=
  if e < 0 ∨ 62 < e then (0, 0, 190) else
  if validB (strip e.toNat n).1 (strip e.toNat n).2 then ((strip e.toNat n).1, ((strip e.toNat n).2 : Int), 0) else (0, 0, 190)

/-- The whole part; what is left, in parts of 2^30. -/
def wh (n : Int) (e : Nat) : Int := n / 2 ^ e
def rs (n : Int) (e : Nat) : Int := (n % 2 ^ e) * 2 ^ (30 - e)

def cmpI (a b : Int) : Int := if a < b then -1 else if b < a then 1 else 0
def cmpF (n : Int) (e : Nat) (m : Int) (f : Nat) : Int := if cmpI (wh n e) (wh m f) ≠ 0 then cmpI (wh n e) (wh m f) else cmpI (rs n e) (rs m f)

def addF (n : Int) (e : Nat) (m : Int) (f : Nat) : Int × Int × Int :=
  let t := rs n e + rs m f
  let w := wh n e + wh m f + t / 1073741824
  let p := strip 30 (t % 1073741824)
  if 1099511627776 / 2 ^ p.2 < w ∨ w < -(1099511627776 / 2 ^ p.2) - 1 then (0, 0, 190) else made (w * 2 ^ p.2 + p.1) p.2

theorem strip_le : ∀ (e : Nat) (n : Int), (strip e n).2 ≤ e
  | 0, n => Nat.le_refl _
  | e + 1, n => by
    unfold strip
    split
    · have := strip_le e (n / 2); omega
    · exact Nat.le_refl _
theorem strip_abs : ∀ (e : Nat) (n B : Int), -B ≤ n → n ≤ B → 0 ≤ B → -B ≤ (strip e n).1 ∧ (strip e n).1 ≤ B
  | 0, n, B, h1, h2, _ => ⟨h1, h2⟩
  | e + 1, n, B, h1, h2, h3 => by
    unfold strip
    split
    · exact strip_abs e (n / 2) B (by omega) (by omega) h3
    · exact ⟨h1, h2⟩
theorem strip_odd : ∀ (e : Nat) (n : Int), (strip e n).2 = 0 ∨ (strip e n).1 % 2 = 1
  | 0, n => .inl rfl
  | e + 1, n => by
    unfold strip
    split
    · exact strip_odd e (n / 2)
    · right; show n % 2 = 1; omega
theorem strip_of_odd (e : Nat) (n : Int) (h : e = 0 ∨ n % 2 = 1) : strip e n = (n, e) := by
  cases e with
  | zero => rfl
  | succ e => unfold strip; rw [if_neg (by omega)]
theorem strip_mul : ∀ (k e : Nat) (n : Int), strip (e + k) (n * 2 ^ k) = strip e n
  | 0, e, n => by simp
  | k + 1, e, n => by
    show strip (e + k + 1) (n * 2 ^ (k + 1)) = _
    have h1 : n * 2 ^ (k + 1) = (n * 2 ^ k) * 2 := by rw [Int.pow_succ, Int.mul_assoc]
    have h2 : strip (e + k + 1) (n * 2 ^ (k + 1)) = if (n * 2 ^ (k + 1)) % 2 = 0 then strip (e + k) (n * 2 ^ (k + 1) / 2) else (n * 2 ^ (k + 1), e + k + 1) := rfl
    rw [h2, if_pos (by rw [h1]; omega), h1, Int.mul_ediv_cancel _ (by decide : (2 : Int) ≠ 0)]
    exact strip_mul k e n
theorem strip_zero : ∀ e : Nat, strip e 0 = (0, 0)
  | 0 => rfl
  | e + 1 => by unfold strip; simp [strip_zero e]
/-- The value is kept. -/
theorem strip_val : ∀ (e : Nat) (n : Int), (strip e n).1 * 2 ^ (e - (strip e n).2) = n
  | 0, n => by simp [strip]
  | e + 1, n => by
    unfold strip
    split
    · rename_i h
      have ih := strip_val e (n / 2)
      have hl := strip_le e (n / 2)
      rw [show e + 1 - (strip e (n / 2)).2 = (e - (strip e (n / 2)).2) + 1 by omega, Int.pow_succ, ← Int.mul_assoc, ih]
      omega
    · simp

theorem tmod2 (n : Int) : n.tmod 2 = 0 ↔ n % 2 = 0 :=
  ⟨fun h => Int.emod_eq_zero_of_dvd (Int.dvd_of_tmod_eq_zero h), fun h => Int.tmod_eq_zero_of_dvd (Int.dvd_of_emod_eq_zero h)⟩
theorem tdiv2 (n : Int) (h : n % 2 = 0) : n.tdiv 2 = n / 2 := Int.tdiv_eq_ediv_of_dvd (Int.dvd_of_emod_eq_zero h)
theorem tdiv_floor (n p : Int) (hp : 0 < p) : (if n.tmod p < 0 then n.tdiv p - 1 else n.tdiv p) = n / p ∧ (if n.tmod p < 0 then n.tmod p + p else n.tmod p) = n % p := by
  have h1 := Int.mul_tdiv_add_tmod n p
  have h2 : n.tmod p < p := Int.tmod_lt_of_pos n hp
  have h3 : -p < n.tmod p := by
    have h4 := Int.tmod_lt_of_pos (-n) hp
    rw [Int.neg_tmod] at h4
    omega
  generalize n.tdiv p = q at *
  generalize n.tmod p = r at *
  split
  · rename_i hr
    have e : n = (r + p) + p * (q - 1) := by rw [Int.mul_sub, Int.mul_one]; omega
    constructor
    · rw [e, Int.add_mul_ediv_left _ _ (by omega), Int.ediv_eq_zero_of_lt (by omega) (by omega)]; omega
    · rw [e, Int.add_mul_emod_self_left, Int.emod_eq_of_lt (by omega) (by omega)]
  · rename_i hr
    have e : n = r + p * q := by omega
    constructor
    · rw [e, Int.add_mul_ediv_left _ _ (by omega), Int.ediv_eq_zero_of_lt (by omega) (by omega)]; omega
    · rw [e, Int.add_mul_emod_self_left, Int.emod_eq_of_lt (by omega) (by omega)]

theorem two_pow_pos (n : Nat) : (0 : Int) < 2 ^ n := Int.pow_pos (by decide)
theorem two_pow_le {m n : Nat} (h : m ≤ n) : (2 : Int) ^ m ≤ 2 ^ n := by exact_mod_cast Nat.pow_le_pow_right (by decide) h
theorem rs_bd (n : Int) (e : Nat) (he : e ≤ 30) : 0 ≤ rs n e ∧ rs n e < 1073741824 := by
  unfold rs
  have h1 : 0 ≤ n % 2 ^ e := Int.emod_nonneg _ (by have := two_pow_pos e; omega)
  have h2 : n % 2 ^ e < 2 ^ e := Int.emod_lt_of_pos _ (two_pow_pos e)
  have h3 : (2 : Int) ^ e * 2 ^ (30 - e) = 1073741824 := by
    rw [← Int.pow_add, show e + (30 - e) = 30 by omega]; decide
  have hp := two_pow_pos (30 - e)
  constructor
  · exact Int.mul_nonneg h1 (Int.le_of_lt hp)
  · rw [← h3]; exact Int.mul_lt_mul_of_pos_right h2 hp
theorem wh_bd (n : Int) (e : Nat) (B : Int) (h : -B ≤ n) (h' : n ≤ B) (hB : 0 ≤ B) : -B ≤ wh n e ∧ wh n e ≤ B := by
  unfold wh
  have hp := two_pow_pos e
  constructor
  · refine (Int.le_ediv_iff_mul_le hp).2 ?_
    have : -B * 2 ^ e ≤ -B * 1 := Int.mul_le_mul_of_nonpos_left (by omega) (by omega)
    omega
  · have h1 : n / 2 ^ e ≤ B / 2 ^ e := Int.ediv_le_ediv hp h'
    have h2 := Int.ediv_le_self (2 ^ e) hB
    omega
theorem made_of {n m : Int} {k x : Nat} (hk : k ≤ 62) (hs : strip k n = (m, x)) : made n k = if validB m x = true then (m, (x : Int), 0) else (0, 0, 190) := by
  unfold made
  rw [if_neg (by omega), Int.toNat_natCast, hs]
theorem made_out {n e : Int} (h : e < 0 ∨ 62 < e) : made n e = (0, 0, 190) := by
  unfold made; rw [if_pos h]
attribute [irreducible] made strip addF cmpF cmpI wh rs validB
end Go.Dy
end

section
/-
  The trailing zeros of an int, plainly.
-/
set_option linter.unusedVariables false
namespace Go.Dy
open Go
theorem ctz_spec (x : Nat) (h0 : 0 < x) (hx : x < 18446744073709551616) : ∃ m, x = 2 ^ Lib.ctz 64 x * (2 * m + 1) ∧ Lib.ctz 64 x < 64 := by
  have e64 : (2 : Nat) ^ 64 = 18446744073709551616 := by decide
  have := Lib.ctzFrom_spec 64 x h0 (by rw [e64]; exact hx)
  unfold Lib.ctz
  first
    | exact this
    | (rw [if_neg (by omega)]; exact this)
/-- Trailing zeros of an int, as its 64 bits have them. -/
def tz (n : Int) : Nat := Lib.ctz 64 (n % 18446744073709551616).toNat
theorem tz_spec (n : Int) (h0 : n ≠ 0) (h1 : -9223372036854775808 ≤ n) (h2 : n ≤ 9223372036854775807) : ∃ o : Int, n = o * 2 ^ tz n ∧ o % 2 = 1 ∧ tz n < 64 := by
  have hu : 0 < (n % 18446744073709551616).toNat ∧ (n % 18446744073709551616).toNat < 18446744073709551616 := by omega
  obtain ⟨m, hm, hc⟩ := ctz_spec _ hu.1 hu.2
  unfold tz
  generalize hcc : Lib.ctz 64 (n % 18446744073709551616).toNat = c at *
  have hm' : n % 18446744073709551616 = 2 ^ c * (2 * (m : Int) + 1) := by
    have : ((n % 18446744073709551616).toNat : Int) = ((2 ^ c * (2 * m + 1) : Nat) : Int) := by rw [← hm]
    rw [Int.toNat_of_nonneg (by omega)] at this
    rw [this]
    simp
  have hp : (2 : Int) ^ c * (2 * 2 ^ (63 - c)) = 18446744073709551616 := by
    rw [← Int.mul_assoc, Int.mul_comm (2 ^ c) 2, Int.mul_assoc, ← Int.pow_add, show c + (63 - c) = 63 by omega]
    decide
  have hd := Int.mul_ediv_add_emod n 18446744073709551616
  refine ⟨2 * (2 ^ (63 - c) * (n / 18446744073709551616)) + (2 * m + 1), ?_, by omega, hc⟩
  rw [Int.add_mul, Int.mul_comm _ (2 ^ c), Int.mul_comm _ (2 ^ c), ← hm']
  rw [← Int.mul_assoc, ← Int.mul_assoc, Int.mul_assoc (2 ^ c), hp]
  omega
theorem tz_lt (n : Int) (h0 : 0 < n) (h1 : n < 1073741824) : tz n < 30 := by
  obtain ⟨o, ho, hodd, hc⟩ := tz_spec n (by omega) (by omega) (by omega)
  rcases Nat.lt_or_ge (tz n) 30 with h | h
  · exact h
  · exfalso
    have h2 : (2 : Int) ^ 30 ≤ 2 ^ tz n := two_pow_le h
    have h3 := two_pow_pos (tz n)
    rw [show (2 : Int) ^ 30 = 1073741824 by decide] at h2
    generalize (2 : Int) ^ tz n = p at *
    rcases Int.lt_or_le o 1 with h4 | h4
    · have : o * p ≤ 0 * p := Int.mul_le_mul_of_nonneg_right (by omega) (by omega)
      omega
    · have : 1 * p ≤ o * p := Int.mul_le_mul_of_nonneg_right h4 (by omega)
      omega
theorem strip_tz (n : Int) (e : Nat) (h0 : n ≠ 0) (h1 : -9223372036854775808 ≤ n) (h2 : n ≤ 9223372036854775807) : strip e n = (n / 2 ^ (min e (tz n)), e - min e (tz n)) := by
  obtain ⟨o, ho, hodd, hc⟩ := tz_spec n h0 h1 h2
  generalize tz n = c at *
  by_cases hle : e ≤ c
  · rw [Nat.min_eq_left hle]
    have e1 : n = o * 2 ^ (c - e) * 2 ^ e := by rw [Int.mul_assoc, ← Int.pow_add, show c - e + e = c by omega]; exact ho
    have hp := two_pow_pos e
    have e2 : n / 2 ^ e = o * 2 ^ (c - e) := by
      conv => lhs; rw [e1]
      exact Int.mul_ediv_cancel _ (by omega)
    rw [e2]
    conv => lhs; rw [e1]
    have := strip_mul e 0 (o * 2 ^ (c - e))
    rw [Nat.zero_add] at this
    rw [this, Nat.sub_self, strip_of_odd 0 _ (Or.inl rfl)]
  · rw [Nat.min_eq_right (by omega)]
    have hp := two_pow_pos c
    have e2 : n / 2 ^ c = o := by
      conv => lhs; rw [ho]
      exact Int.mul_ediv_cancel _ (by omega)
    rw [e2]
    have := strip_mul c (e - c) o
    rw [show e - c + c = e by omega, ← ho] at this
    rw [this, strip_of_odd _ _ (Or.inr hodd)]
theorem made_tz (n : Int) (e : Nat) (he : e ≤ 62) (h0 : n ≠ 0) (h1 : -9223372036854775808 ≤ n) (h2 : n ≤ 9223372036854775807) : made n e = if validB (n / 2 ^ (min e (tz n))) ((e - min e (tz n) : Nat) : Int) = true then (n / 2 ^ (min e (tz n)), ((e - min e (tz n) : Nat) : Int), 0) else (0, 0, 190) := made_of he (strip_tz n e h0 h1 h2)
theorem made_zero (e : Nat) (he : e ≤ 62) : made 0 e = (0, 0, 0) := by
  rw [made_of he (strip_zero e), if_pos (by unfold validB; decide)]; rfl
attribute [irreducible] tz
end Go.Dy
end

section
/-
  Fractions as whole numbers, in parts of 2^30.
-/
set_option linter.unusedVariables false
set_option maxHeartbeats 1000000
namespace Go.Dy
def val (n : Int) (e : Nat) : Int := n * 2 ^ (30 - e)
theorem p30 (e : Nat) (he : e ≤ 30) : (2 : Int) ^ e * 2 ^ (30 - e) = 1073741824 := by
  rw [← Int.pow_add, show e + (30 - e) = 30 by omega]; decide
theorem wh_val (n : Int) (e : Nat) (he : e ≤ 30) : wh n e = val n e / 1073741824 := by
  unfold wh val
  rw [← p30 e he]
  exact (Int.mul_ediv_mul_of_pos_left _ _ (two_pow_pos _)).symm
theorem rs_val (n : Int) (e : Nat) (he : e ≤ 30) : rs n e = val n e % 1073741824 := by
  unfold rs val
  rw [← p30 e he, Int.mul_comm n, Int.mul_comm (2 ^ e), Int.mul_comm (n % _), Int.mul_emod_mul_of_pos _ _ (two_pow_pos _)]
theorem cmp_val (n : Int) (e : Nat) (m : Int) (f : Nat) (he : e ≤ 30) (hf : f ≤ 30) : cmpF n e m f = cmpI (val n e) (val m f) := by
  unfold cmpF
  rw [wh_val n e he, wh_val m f hf, rs_val n e he, rs_val m f hf]
  unfold cmpI
  generalize val n e = a
  generalize val m f = b
  repeat' split
  all_goals omega
theorem val_neg (n : Int) (e : Nat) : val (-n) e = - val n e := by unfold val; rw [Int.neg_mul]
theorem val0 (e : Nat) : val 0 e = 0 := by unfold val; rw [Int.zero_mul]
/-- The fraction of a number, if it has one. -/
def norm (S : Int) : Int × Int × Int :=
  if (strip 30 S).1 ≤ 1099511627776 ∧ -1099511627776 ≤ (strip 30 S).1 then ((strip 30 S).1, ((strip 30 S).2 : Int), 0) else (0, 0, 190)
theorem strip_val30 (n : Int) (e : Nat) (he : e ≤ 30) : strip 30 (val n e) = strip e n := by
  unfold val
  have := strip_mul (30 - e) e n
  rwa [show e + (30 - e) = 30 by omega] at this
theorem norm_val (n : Int) (e : Nat) (h : Valid n e) : norm (val n e) = (n, (e : Int), 0) := by
  obtain ⟨he, h1, h2, h3⟩ := h
  unfold norm
  rw [strip_val30 n e he, strip_of_odd e n h3, if_pos ⟨h2, h1⟩]
theorem val_strip (S : Int) : val (strip 30 S).1 (strip 30 S).2 = S := strip_val 30 S
theorem validB_iff (n : Int) (e : Nat) : validB n e = true ↔ Valid n e := by
  unfold validB Valid
  rw [decide_eq_true_iff]
  omega
theorem norm_cases (S : Int) : (∃ n e, Valid n e ∧ val n e = S ∧ norm S = (n, (e : Int), 0)) ∨ (norm S = (0, 0, 190) ∧ ∀ n e, Valid n e → val n e ≠ S) := by
  by_cases h : (strip 30 S).1 ≤ 1099511627776 ∧ -1099511627776 ≤ (strip 30 S).1
  · left
    refine ⟨(strip 30 S).1, (strip 30 S).2, ⟨strip_le 30 S, h.2, h.1, strip_odd 30 S⟩, val_strip S, ?_⟩
    unfold norm; rw [if_pos h]
  · right
    refine ⟨by unfold norm; rw [if_neg h], ?_⟩
    intro n e hv he
    subst he
    obtain ⟨he, h1, h2, h3⟩ := hv
    rw [strip_val30 n e he, strip_of_odd e n h3] at h
    exact h ⟨h2, h1⟩
theorem made_norm (n : Int) (e : Nat) (he : e ≤ 30) : made n e = norm (val n e) := by
  unfold norm
  rw [strip_val30 n e he, made_of (by omega) (m := (strip e n).1) (x := (strip e n).2) rfl]
  have h1 := strip_le e n
  have h2 := strip_odd e n
  generalize strip e n = p at *
  unfold validB
  simp only [decide_eq_true_eq]
  split <;> split <;> first | rfl | omega
theorem strip_add : ∀ (e : Nat) (w t : Int), 0 ≤ t → t < 2 ^ e → strip e (w * 2 ^ e + t) = (w * 2 ^ (strip e t).2 + (strip e t).1, (strip e t).2)
  | 0, w, t, h1, h2 => by
    unfold strip; simp
  | e + 1, w, t, h1, h2 => by
    have h3 : w * 2 ^ (e + 1) = 2 * (w * 2 ^ e) := by rw [Int.pow_succ, ← Int.mul_assoc, Int.mul_comm]
    have hp : (2 : Int) ^ (e + 1) = 2 * 2 ^ e := by rw [Int.pow_succ, Int.mul_comm]
    by_cases h : t % 2 = 0
    · have ih := strip_add e w (t / 2) (by omega) (by omega)
      have l : strip (e + 1) (w * 2 ^ (e + 1) + t) = strip e (w * 2 ^ e + t / 2) := by
        conv => lhs; unfold strip
        rw [if_pos (by omega)]
        congr 1
        omega
      have r : strip (e + 1) t = strip e (t / 2) := by
        conv => lhs; unfold strip
        rw [if_pos h]
      rw [l, r, ih]
    · rw [strip_of_odd (e + 1) t (by omega), strip_of_odd (e + 1) _ (by omega)]
theorem addF_val (n : Int) (e : Nat) (m : Int) (f : Nat) (he : e ≤ 30) (hf : f ≤ 30) : addF n e m f = norm (val n e + val m f) := by
  unfold addF
  simp only
  rw [wh_val n e he, wh_val m f hf, rs_val n e he, rs_val m f hf]
  generalize val n e = a
  generalize val m f = b
  have e1 : a / 1073741824 + b / 1073741824 + (a % 1073741824 + b % 1073741824) / 1073741824 = (a + b) / 1073741824 := by omega
  have e2 : (a % 1073741824 + b % 1073741824) % 1073741824 = (a + b) % 1073741824 := by omega
  rw [e1, e2]
  generalize a + b = s
  have hs : s = (s / 1073741824) * 2 ^ 30 + s % 1073741824 := by
    rw [show (2 : Int) ^ 30 = 1073741824 by decide]; omega
  have hsa := strip_add 30 (s / 1073741824) (s % 1073741824) (by omega) (by rw [show (2 : Int) ^ 30 = 1073741824 by decide]; omega)
  rw [← hs] at hsa
  have ht0 : 0 ≤ s % 1073741824 := by omega
  have ht1 : s % 1073741824 < 1073741824 := by omega
  have hv := strip_val 30 (s % 1073741824)
  have hl := strip_le 30 (s % 1073741824)
  have ho := strip_odd 30 (s % 1073741824)
  generalize s % 1073741824 = t at *
  generalize s / 1073741824 = w at *
  generalize strip 30 t = p at *
  obtain ⟨q, x⟩ := p
  dsimp only at *
  have hp := two_pow_pos x
  have hp' := two_pow_pos (30 - x)
  have hq : 0 ≤ q ∧ q < 2 ^ x := by
    have h30 := p30 x hl
    constructor
    · rcases Int.lt_or_le q 0 with h | h
      · have := Int.mul_neg_of_neg_of_pos h hp'
        omega
      · exact h
    · rcases Int.lt_or_le q (2 ^ x) with h | h
      · exact h
      · have := Int.mul_le_mul_of_nonneg_right h (Int.le_of_lt hp')
        omega
  have hm : 1099511627776 / (2 : Int) ^ x * 2 ^ x ≤ 1099511627776 := Int.ediv_mul_le _ (by omega)
  have hm' : 1099511627776 < (1099511627776 / (2 : Int) ^ x + 1) * 2 ^ x := Int.lt_ediv_add_one_mul_self _ hp
  have hstr : strip x (w * 2 ^ x + q) = (w * 2 ^ x + q, x) := by
    refine strip_of_odd x _ ?_
    rcases ho with h | h
    · exact Or.inl h
    · right
      cases x with
      | zero => simp at hq; omega
      | succ y =>
        have : w * 2 ^ (y + 1) = 2 * (w * 2 ^ y) := by rw [Int.pow_succ, ← Int.mul_assoc, Int.mul_comm]
        omega
  have hmade := made_of (by omega : x ≤ 62) hstr
  unfold norm
  rw [hsa]
  dsimp only
  generalize 1099511627776 / (2 : Int) ^ x = M at *
  split
  · rename_i hc
    rw [if_neg ?_]
    rcases hc with h | h
    · have : (M + 1) * 2 ^ x ≤ w * 2 ^ x := Int.mul_le_mul_of_nonneg_right (by omega) (by omega)
      omega
    · have : w * 2 ^ x ≤ (-(M + 1) - 1) * 2 ^ x := Int.mul_le_mul_of_nonneg_right (by omega) (by omega)
      rw [Int.sub_mul, Int.neg_mul] at this
      omega
  · rw [hmade]
    have hodd : x = 0 ∨ (w * 2 ^ x + q) % 2 = 1 := by
      have := strip_odd x (w * 2 ^ x + q)
      rw [hstr] at this
      exact this
    unfold validB
    simp only [decide_eq_true_eq]
    split <;> split <;> first | rfl | omega
attribute [irreducible] val norm
end Go.Dy
end

section
/-
  The simplest fraction between two, plainly.
-/
set_option linter.unusedVariables false
set_option maxHeartbeats 1000000
namespace Go.Dy
/-- The numerators between two numbers, with an exponent. -/
def lowX (A : Int) (x : Nat) : Int := max (A / 2 ^ (30 - x) + 1) (-1099511627776)
def highX (B : Int) (x : Nat) : Int := min (-((-B) / 2 ^ (30 - x)) - 1) 1099511627776
def near (l h : Int) : Int := if 0 < l then l else if h < 0 then h else 0
def btwF (A B : Int) : Nat → Nat → Int × Int × Int
  | 0, _ => (0, 0, 190)
  | f + 1, x => if lowX A x ≤ highX B x then (near (lowX A x) (highX B x), (x : Int), 0) else btwF A B f (x + 1)
def btw (A B : Int) : Int × Int × Int := btwF A B 31 0
/-- What is between: a numerator with an exponent, in bounds. -/
theorem inX (A B n : Int) (x : Nat) (hx : x ≤ 30) : (lowX A x ≤ n ∧ n ≤ highX B x) ↔ (A < val n x ∧ val n x < B ∧ -1099511627776 ≤ n ∧ n ≤ 1099511627776) := by
  unfold lowX highX val
  have hp := two_pow_pos (30 - x)
  generalize (2 : Int) ^ (30 - x) = p at *
  have h1 : A / p < n ↔ A < n * p := Int.ediv_lt_iff_lt_mul hp
  have h2 : (-B) / p < -n ↔ -B < -n * p := Int.ediv_lt_iff_lt_mul hp
  rw [Int.neg_mul] at h2
  omega
theorem val_succ (n : Int) (x : Nat) (hx : x < 30) : val (2 * n) (x + 1) = val n x := by
  unfold val
  rw [show 30 - x = (30 - (x + 1)) + 1 by omega, Int.pow_succ, Int.mul_comm 2 n, Int.mul_assoc, Int.mul_comm (2 : Int)]
/-- Where the exponent below has none, there is at most one, and it is odd. -/
theorem odd_only (A B n : Int) (x : Nat) (hx : x < 30) (hno : highX B x < lowX A x) (hn : lowX A (x + 1) ≤ n ∧ n ≤ highX B (x + 1)) : n % 2 = 1 := by
  rcases Int.emod_two_eq n with h | h
  · exfalso
    obtain ⟨m, rfl⟩ : ∃ m, n = 2 * m := ⟨n / 2, by omega⟩
    have h1 := (inX A B (2 * m) (x + 1) (by omega)).1 hn
    rw [val_succ m x hx] at h1
    have h2 := (inX A B m x (by omega)).2 ⟨h1.1, h1.2.1, by omega, by omega⟩
    omega
  · exact h
theorem one_only (A B : Int) (x : Nat) (hx : x < 30) (hno : highX B x < lowX A x) (hle : lowX A (x + 1) ≤ highX B (x + 1)) : lowX A (x + 1) = highX B (x + 1) ∧ lowX A (x + 1) % 2 = 1 := by
  have h1 := odd_only A B (lowX A (x + 1)) x hx hno ⟨by omega, hle⟩
  refine ⟨?_, h1⟩
  rcases Int.lt_or_le (lowX A (x + 1)) (highX B (x + 1)) with h | h
  · have := odd_only A B (lowX A (x + 1) + 1) x hx hno ⟨by omega, by omega⟩
    omega
  · omega
theorem lowX_bd (A : Int) (x : Nat) : -1099511627776 ≤ lowX A x := by unfold lowX; omega
theorem highX_bd (B : Int) (x : Nat) : highX B x ≤ 1099511627776 := by unfold highX; omega
/-- A floor, or what stands for it beyond the limits. -/
structure Fl (p F : Int) : Prop where
  ok : p = F ∨ (1099511627776 < F ∧ 1099511627776 < p) ∨ (F < -1099511627776 ∧ p < -1099511627776)
  lo : -9007199254740992 ≤ p
  hi : p ≤ 9007199254740992
theorem Fl.bounds {p q A B : Int} {x : Nat} (hp : Fl p (A / 2 ^ (30 - x))) (hq : Fl q ((-B) / 2 ^ (30 - x))) : (max (p + 1) (-1099511627776) ≤ min (-q - 1) 1099511627776 ↔ lowX A x ≤ highX B x) ∧ (lowX A x ≤ highX B x → max (p + 1) (-1099511627776) = lowX A x ∧ min (-q - 1) 1099511627776 = highX B x) := by
  obtain ⟨h1, _, _⟩ := hp
  obtain ⟨h2, _, _⟩ := hq
  unfold lowX highX
  generalize A / 2 ^ (30 - x) = F at *
  generalize (-B) / 2 ^ (30 - x) = G at *
  omega
theorem btwF_succ (A B : Int) (f x : Nat) : btwF A B (f + 1) x = if lowX A x ≤ highX B x then (near (lowX A x) (highX B x), (x : Int), 0) else btwF A B f (x + 1) := rfl
attribute [irreducible] lowX highX btwF
end Go.Dy
end

section
/-
  Plain maths: the forms of numbers: their order is that of the numbers, they are canonical, their sums are the forms of the sums.
-/
set_option linter.unusedVariables false
set_option linter.unusedSimpArgs false
set_option linter.unusedSectionVars false
namespace Go.Va
open Go.Dy
def nu (A : Int) : Int := (strip 30 A).1
def ex (A : Int) : Nat := (strip 30 A).2
def un (A : Int) : Int := 2 ^ (30 - ex A)
theorem un_pos (A : Int) : 0 < un A := two_pow_pos _
theorem ex_le (A : Int) : ex A ≤ 30 := strip_le 30 A
theorem strip0 (n : Int) : strip 0 n = (n, 0) := by unfold strip; rfl
theorem nu_un (A : Int) : nu A * un A = A := by
  have := val_strip A
  unfold val at this
  exact this
theorem nu_odd (A : Int) : ex A = 0 ∨ nu A % 2 = 1 := strip_odd 30 A
theorem un_le (A : Int) : un A ≤ 1073741824 := by
  unfold un
  have := two_pow_le (show 30 - ex A ≤ 30 by omega)
  simpa using this
theorem un_int {A : Int} (h : ex A = 0) : un A = 1073741824 := by unfold un; rw [h]; rfl
theorem un_frac {A : Int} (h : 0 < ex A) : 2 * un A ≤ 1073741824 ∧ ∃ k : Nat, k ≤ 30 ∧ (2 : Int) ^ k = 2 * un A := by
  have hl := ex_le A
  have e : (2 : Int) ^ (31 - ex A) = 2 * un A := by
    unfold un
    rw [show 31 - ex A = (30 - ex A) + 1 by omega, Int.pow_succ, Int.mul_comm]
  refine ⟨?_, 31 - ex A, by omega, e⟩
  rw [← e]
  have := two_pow_le (show 31 - ex A ≤ 30 by omega)
  simpa using this
/-- No greater power of two divides. -/
theorem un_max {A c : Int} {k : Nat} (hk : k ≤ 30) (h : A = c * 2 ^ k) : (2 : Int) ^ k ≤ un A := by
  have hl := ex_le A
  rcases Nat.lt_or_ge (30 - ex A) k with hlt | hge
  · exfalso
    rcases nu_odd A with h0 | h0
    · omega
    · have h1 := nu_un A
      unfold un at h1
      obtain ⟨j, rfl⟩ : ∃ j, k = (30 - ex A) + (j + 1) := ⟨k - (30 - ex A) - 1, by omega⟩
      rw [Int.pow_add, ← Int.mul_assoc, Int.mul_right_comm] at h
      have h2 : nu A * 2 ^ (30 - ex A) = (c * 2 ^ (j + 1)) * 2 ^ (30 - ex A) := h1.trans h
      have h3 := Int.eq_of_mul_eq_mul_right (Int.ne_of_gt (two_pow_pos (30 - ex A))) h2
      rw [Int.pow_succ, ← Int.mul_assoc] at h3
      omega
  · exact two_pow_le hge
theorem un_dvd {A B : Int} (h : un A ≤ un B) : ∃ c, B = c * un A := by
  have hA := ex_le A
  have hB := ex_le B
  have hle : 30 - ex A ≤ 30 - ex B := by
    rcases Nat.lt_or_ge (30 - ex B) (30 - ex A) with h1 | h1
    · exfalso
      have h2 : un B * 2 ≤ un A := by
        unfold un
        rw [← Int.pow_succ]
        exact two_pow_le h1
      have := un_pos B
      omega
    · exact h1
  refine ⟨nu B * 2 ^ ((30 - ex B) - (30 - ex A)), ?_⟩
  have h3 := nu_un B
  unfold un at h3 ⊢
  rw [Int.mul_assoc, ← Int.pow_add, show (30 - ex B) - (30 - ex A) + (30 - ex A) = 30 - ex B by omega]
  exact h3.symm
theorem gap {a b u : Int} (hu : 0 < u) (h : a * u < b * u) : a * u + u ≤ b * u := by
  have h1 : a < b := Int.lt_of_mul_lt_mul_right h (Int.le_of_lt hu)
  have h2 : (a + 1) * u ≤ b * u := Int.mul_le_mul_of_nonneg_right (by omega) (Int.le_of_lt hu)
  rw [Int.add_mul, Int.one_mul] at h2
  exact h2
theorem strip_neg : ∀ (e : Nat) (n : Int), strip e (-n) = (-(strip e n).1, (strip e n).2)
  | 0, n => by rw [strip0, strip0]
  | e + 1, n => by
    unfold strip
    by_cases h : n % 2 = 0
    · rw [if_pos (by omega), if_pos h, show -n / 2 = -(n / 2) by omega]
      exact strip_neg e (n / 2)
    · rw [if_neg (by omega), if_neg h]
theorem nu_neg (A : Int) : nu (-A) = -nu A := by unfold nu; rw [strip_neg]
theorem ex_neg (A : Int) : ex (-A) = ex A := by unfold ex; rw [strip_neg]
theorem un_neg (A : Int) : un (-A) = un A := by unfold un; rw [ex_neg]
/-- What gets less. -/
def me (A : Int) : Nat := ex A + (nu A).natAbs
theorem strip_sub (A d : Int) : strip 30 (A + d * un A) = strip (ex A) (nu A + d) := by
  have h := nu_un A
  have e : A + d * un A = val (nu A + d) (ex A) := by
    unfold val
    rw [Int.add_mul]
    show _ = nu A * un A + d * un A
    rw [h]
  rw [e, strip_val30 _ _ (ex_le A)]
theorem me_step {A d : Int} (hd : d = 1 ∨ d = -1) (h : 0 < ex A ∨ (d = -1 ∧ 0 < A) ∨ (d = 1 ∧ A < 0)) : me (A + d * un A) < me A := by
  unfold me nu ex
  rw [strip_sub]
  show (strip (ex A) (nu A + d)).2 + (strip (ex A) (nu A + d)).1.natAbs < ex A + (nu A).natAbs
  have hu := un_pos A
  have hn := nu_un A
  by_cases h0 : 0 < ex A
  · obtain ⟨e, he⟩ : ∃ e, ex A = e + 1 := ⟨ex A - 1, by omega⟩
    have ho : nu A % 2 = 1 := (nu_odd A).resolve_left (by omega)
    rw [he]
    unfold strip
    rw [if_pos (by omega)]
    have h1 := strip_le e ((nu A + d) / 2)
    have h2 := strip_abs e ((nu A + d) / 2) ((nu A).natAbs : Int) (by omega) (by omega) (by omega)
    omega
  · have he : ex A = 0 := by omega
    rw [he, strip0]
    show 0 + (nu A + d).natAbs < 0 + (nu A).natAbs
    rcases h with h | h | h
    · omega
    · have : 0 < nu A := by
        rcases Int.lt_or_le 0 (nu A) with h1 | h1
        · exact h1
        · have := Int.mul_le_mul_of_nonneg_right h1 (Int.le_of_lt hu)
          omega
      omega
    · have : nu A < 0 := by
        rcases Int.lt_or_le (nu A) 0 with h1 | h1
        · exact h1
        · have := Int.mul_le_mul_of_nonneg_right h1 (Int.le_of_lt hu)
          omega
      omega
theorem me_l {A : Int} (h : 0 < ex A ∨ 0 < A) : me (A - un A) < me A := by
  have := me_step (A := A) (d := -1) (.inr rfl) (h.imp id fun h => .inl ⟨rfl, h⟩)
  rwa [show A + -1 * un A = A - un A by omega] at this
theorem me_r {A : Int} (h : 0 < ex A ∨ A < 0) : me (A + un A) < me A := by
  have := me_step (A := A) (d := 1) (.inl rfl) (h.imp id fun h => .inr ⟨rfl, h⟩)
  rwa [Int.one_mul] at this
/-- The form of a number, in parts of 2^30. -/
def ff (A : Int) : Fm := .mk (if h : 0 < ex A ∨ 0 < A then [ff (A - un A)] else []) (if h : 0 < ex A ∨ A < 0 then [ff (A + un A)] else [])
termination_by me A
decreasing_by
  · exact me_l h
  · exact me_r h
theorem ff_L (A : Int) : (ff A).L = if 0 < ex A ∨ 0 < A then [ff (A - un A)] else [] := by
  rw [ff, mkL]; split <;> simp_all
theorem ff_R (A : Int) : (ff A).R = if 0 < ex A ∨ A < 0 then [ff (A + un A)] else [] := by
  rw [ff, mkR]; split <;> simp_all
theorem le_ff_n : ∀ n A B, me A + me B ≤ n → (Le (ff A) (ff B) ↔ A ≤ B) := by
  intro n
  induction n using Nat.strongRecOn with
  | _ n ih =>
    intro A B hn
    have hA := un_pos A
    have hB := un_pos B
    have key : Le (ff A) (ff B) ↔ ((0 < ex A ∨ 0 < A) → A - un A < B) ∧ ((0 < ex B ∨ B < 0) → A < B + un B) := by
      rw [le_iff, ff_L, ff_R]
      refine and_congr ?_ ?_
      · split
        · rename_i h
          have := me_l h
          have := ih _ (by omega) B (A - un A) (Nat.le_refl _)
          simp only [List.mem_singleton, forall_eq, this, h, true_implies]
          omega
        · rename_i h
          simp [h]
      · split
        · rename_i h
          have := me_r h
          have := ih _ (by omega) (B + un B) A (Nat.le_refl _)
          simp only [List.mem_singleton, forall_eq, this, h, true_implies]
          omega
        · rename_i h
          simp [h]
    rw [key]
    constructor
    · rintro ⟨h1, h2⟩
      rcases Int.lt_or_le B A with hlt | hle
      · exfalso
        have a0 := nu_un A
        have b0 := nu_un B
        by_cases hu : un A ≤ un B
        · obtain ⟨c, hc⟩ := un_dvd hu
          have g := gap hA (a := c) (b := nu A) (by rw [← hc, a0]; exact hlt)
          rw [← hc, a0] at g
          by_cases hP : 0 < ex A ∨ 0 < A
          · have := h1 hP; omega
          · have e0 : ex A = 0 := by omega
            have := un_int e0
            have := un_le B
            have := h2 (.inr (by omega))
            omega
        · obtain ⟨c, hc⟩ := un_dvd (A := B) (B := A) (by omega)
          have g := gap hB (a := nu B) (b := c) (by rw [← hc, b0]; exact hlt)
          rw [← hc, b0] at g
          by_cases hQ : 0 < ex B ∨ B < 0
          · have := h2 hQ; omega
          · have e0 : ex B = 0 := by omega
            have := un_int e0
            have := un_le A
            omega
      · exact hle
    · intro h
      exact ⟨fun _ => by omega, fun _ => by omega⟩
theorem le_ff {A B : Int} : Le (ff A) (ff B) ↔ A ≤ B := le_ff_n _ A B (Nat.le_refl _)
theorem leq_ff (A B : Int) : leq (ff A) (ff B) = decide (A ≤ B) := by
  rw [Bool.eq_iff_iff, decide_eq_true_iff]; exact le_ff
theorem ff_zero : ff 0 = zero := by
  have : ex 0 = 0 := by unfold ex; rw [strip_zero]
  apply ext
  · rw [ff_L, if_neg (by omega)]; rfl
  · rw [ff_R, if_neg (by omega)]; rfl
theorem neg_ff_n : ∀ n A, me A ≤ n → neg (ff A) = ff (-A) := by
  intro n
  induction n using Nat.strongRecOn with
  | _ n ih =>
    intro A hn
    apply ext
    · rw [neg_L, ff_R, ff_L, ex_neg, un_neg]
      by_cases h : 0 < ex A ∨ A < 0
      · have := me_r h
        rw [if_pos h, if_pos (by omega), List.map_cons, List.map_nil, ih _ (by omega) _ (Nat.le_refl _), show -(A + un A) = -A - un A by omega]
      · rw [if_neg h, if_neg (by omega)]; rfl
    · rw [neg_R, ff_R, ff_L, ex_neg, un_neg]
      by_cases h : 0 < ex A ∨ 0 < A
      · have := me_l h
        rw [if_pos h, if_pos (by omega), List.map_cons, List.map_nil, ih _ (by omega) _ (Nat.le_refl _), show -(A - un A) = -A + un A by omega]
      · rw [if_neg h, if_neg (by omega)]; rfl
theorem neg_ff (A : Int) : neg (ff A) = ff (-A) := neg_ff_n _ A (Nat.le_refl _)
/-- The one next to a number is simpler. -/
theorem un_next {A d : Int} (hd : d = 1 ∨ d = -1) (h : 0 < ex A) : 2 * un A ≤ un (A + d * un A) := by
  obtain ⟨h1, k, hk, e⟩ := un_frac h
  have ho : nu A % 2 = 1 := (nu_odd A).resolve_left (by omega)
  have h2 : A + d * un A = ((nu A + d) / 2) * 2 ^ k := by
    rw [e, ← Int.mul_assoc, show (nu A + d) / 2 * 2 = nu A + d by omega, Int.add_mul, nu_un]
  have := un_max hk h2
  omega
theorem ex_int {A d : Int} (h : ex A = 0) : ex (A + d * un A) = 0 := by
  unfold ex
  rw [strip_sub, h, strip0]
theorem can_ff_n : ∀ n A, me A ≤ n → Can (ff A) := by
  intro n
  induction n using Nat.strongRecOn with
  | _ n ih =>
    intro A hn
    have hL := ff_L A
    have hR := ff_R A
    have hu := un_pos A
    have nl : ∀ x ∈ (ff A).L, ∀ z ∈ x.R, ¬ Le z (ff A) := by
      intro x hx z hz
      rw [hL] at hx
      split at hx
      · rename_i h
        rw [List.mem_singleton] at hx
        subst hx
        rw [ff_R] at hz
        split at hz
        · rename_i h2
          rw [List.mem_singleton] at hz
          subst hz
          rw [le_ff]
          rcases Nat.eq_zero_or_pos (ex A) with h3 | h3
          · exfalso
            have h4 := ex_int (d := -1) h3
            rw [show A + -1 * un A = A - un A by omega] at h4
            have h5 := un_int h3
            have hA : 0 < A := by omega
            have h6 := nu_un A
            rw [h5] at h6
            rcases h2 with h2 | h2
            · omega
            · omega
          · have := un_next (d := -1) (.inr rfl) h3
            rw [show A + -1 * un A = A - un A by omega] at this
            omega
        · cases hz
      · cases hx
    have nr : ∀ x ∈ (ff A).R, ∀ z ∈ x.L, ¬ Le (ff A) z := by
      intro x hx z hz
      rw [hR] at hx
      split at hx
      · rename_i h
        rw [List.mem_singleton] at hx
        subst hx
        rw [ff_L] at hz
        split at hz
        · rename_i h2
          rw [List.mem_singleton] at hz
          subst hz
          rw [le_ff]
          rcases Nat.eq_zero_or_pos (ex A) with h3 | h3
          · exfalso
            have h4 := ex_int (d := 1) h3
            rw [Int.one_mul] at h4
            have h5 := un_int h3
            have h6 := nu_un A
            rw [h5] at h6
            rcases h2 with h2 | h2
            · omega
            · omega
          · have := un_next (d := 1) (.inl rfl) h3
            rw [Int.one_mul] at this
            omega
        · cases hz
      · cases hx
    refine .mk _ (fun x hx => ?_) (fun x hx => ?_) ⟨nl, nr, ?_, ?_, ?_, ?_⟩
    · rw [hL] at hx
      split at hx
      · rename_i h
        rw [List.mem_singleton] at hx; subst hx
        have := me_l h
        exact ih _ (by omega) _ (Nat.le_refl _)
      · cases hx
    · rw [hR] at hx
      split at hx
      · rename_i h
        rw [List.mem_singleton] at hx; subst hx
        have := me_r h
        exact ih _ (by omega) _ (Nat.le_refl _)
      · cases hx
    · intro x hx y hy _
      rw [hL] at hx hy
      split at hx
      · simp_all
      · cases hx
    · intro x hx y hy _
      rw [hR] at hx hy
      split at hx
      · simp_all
      · cases hx
    · rw [hL]; unfold Srt; split <;> simp
    · rw [hR]; unfold Srt; split <;> simp
theorem can_ff (A : Int) : Can (ff A) := can_ff_n _ A (Nat.le_refl _)
theorem canon_ff (A : Int) : canon (ff A) = ff A := canon_of_can (can_ff A)

/-! ### Sums -/
theorem un_sum (A B : Int) : min (un A) (un B) ≤ un (A + B) := by
  by_cases h : un A ≤ un B
  · obtain ⟨c, hc⟩ := un_dvd h
    have := un_max (A := A + B) (c := nu A + c) (k := 30 - ex A) (by omega) (by
      show _ = _ * un A
      rw [Int.add_mul, nu_un, ← hc])
    have h2 : un A ≤ un (A + B) := this
    omega
  · obtain ⟨c, hc⟩ := un_dvd (A := B) (B := A) (by omega)
    have := un_max (A := A + B) (c := c + nu B) (k := 30 - ex B) (by omega) (by
      show _ = _ * un B
      rw [Int.add_mul, nu_un, ← hc])
    have h2 : un B ≤ un (A + B) := this
    omega
theorem int_of {A : Int} (h : un A = 1073741824) : ex A = 0 := by
  rcases Nat.eq_zero_or_pos (ex A) with h1 | h1
  · exact h1
  · have := (un_frac h1).1
    omega
theorem add_ff_n : ∀ n A B, me A + me B ≤ n → Eqv (add (ff A) (ff B)) (ff (A + B)) := by
  intro n
  induction n using Nat.strongRecOn with
  | _ n ih =>
    intro A B hn
    have hA := un_pos A
    have hB := un_pos B
    have hC := un_pos (A + B)
    have hm := un_sum A B
    have lA := un_le A
    have lB := un_le B
    have lC := un_le (A + B)
    have la : (0 < ex A ∨ 0 < A) → add (ff (A - un A)) (ff B) ∈ (add (ff A) (ff B)).L ∧ Eqv (add (ff (A - un A)) (ff B)) (ff (A + B - un A)) := fun h => by
      have := me_l h
      have e := ih _ (by omega) (A - un A) B (Nat.le_refl _)
      rw [show A - un A + B = A + B - un A by omega] at e
      exact ⟨in_add_L1 (by rw [ff_L, if_pos h]; simp), e⟩
    have lb : (0 < ex B ∨ 0 < B) → add (ff A) (ff (B - un B)) ∈ (add (ff A) (ff B)).L ∧ Eqv (add (ff A) (ff (B - un B))) (ff (A + B - un B)) := fun h => by
      have := me_l h
      have e := ih _ (by omega) A (B - un B) (Nat.le_refl _)
      rw [show A + (B - un B) = A + B - un B by omega] at e
      exact ⟨in_add_L2 (by rw [ff_L, if_pos h]; simp), e⟩
    have ra : (0 < ex A ∨ A < 0) → add (ff (A + un A)) (ff B) ∈ (add (ff A) (ff B)).R ∧ Eqv (add (ff (A + un A)) (ff B)) (ff (A + B + un A)) := fun h => by
      have := me_r h
      have e := ih _ (by omega) (A + un A) B (Nat.le_refl _)
      rw [show A + un A + B = A + B + un A by omega] at e
      exact ⟨in_add_R1 (by rw [ff_R, if_pos h]; simp), e⟩
    have rb : (0 < ex B ∨ B < 0) → add (ff A) (ff (B + un B)) ∈ (add (ff A) (ff B)).R ∧ Eqv (add (ff A) (ff (B + un B))) (ff (A + B + un B)) := fun h => by
      have := me_r h
      have e := ih _ (by omega) A (B + un B) (Nat.le_refl _)
      rw [show A + (B + un B) = A + B + un B by omega] at e
      exact ⟨in_add_R2 (by rw [ff_R, if_pos h]; simp), e⟩
    have allL : ∀ x ∈ (add (ff A) (ff B)).L, ((0 < ex A ∨ 0 < A) ∧ x = add (ff (A - un A)) (ff B)) ∨ ((0 < ex B ∨ 0 < B) ∧ x = add (ff A) (ff (B - un B))) := by
      intro x hx
      rcases mem_add_L.1 hx with ⟨y, hy, rfl⟩ | ⟨y, hy, rfl⟩
      · rw [ff_L] at hy
        split at hy
        · rename_i h; rw [List.mem_singleton] at hy; subst hy; exact .inl ⟨h, rfl⟩
        · cases hy
      · rw [ff_L] at hy
        split at hy
        · rename_i h; rw [List.mem_singleton] at hy; subst hy; exact .inr ⟨h, rfl⟩
        · cases hy
    have allR : ∀ x ∈ (add (ff A) (ff B)).R, ((0 < ex A ∨ A < 0) ∧ x = add (ff (A + un A)) (ff B)) ∨ ((0 < ex B ∨ B < 0) ∧ x = add (ff A) (ff (B + un B))) := by
      intro x hx
      rcases mem_add_R.1 hx with ⟨y, hy, rfl⟩ | ⟨y, hy, rfl⟩
      · rw [ff_R] at hy
        split at hy
        · rename_i h; rw [List.mem_singleton] at hy; subst hy; exact .inl ⟨h, rfl⟩
        · cases hy
      · rw [ff_R] at hy
        split at hy
        · rename_i h; rw [List.mem_singleton] at hy; subst hy; exact .inr ⟨h, rfl⟩
        · cases hy
    -- an option as near as the sum's own
    have someL : (0 < ex (A + B) ∨ 0 < A + B) → (0 < ex A ∨ 0 < A) ∧ un A ≤ un (A + B) ∨ (0 < ex B ∨ 0 < B) ∧ un B ≤ un (A + B) := by
      intro h
      by_cases eA : un A = 1073741824
      · by_cases eB : un B = 1073741824
        · have iA := int_of eA
          have iB := int_of eB
          have eC : un (A + B) = 1073741824 := by omega
          have iC := int_of eC
          omega
        · right
          have : 0 < ex B := by rcases Nat.eq_zero_or_pos (ex B) with h1 | h1; exact absurd (un_int h1) eB; exact h1
          exact ⟨.inl this, by omega⟩
      · have h1 : 0 < ex A := by rcases Nat.eq_zero_or_pos (ex A) with h1 | h1; exact absurd (un_int h1) eA; exact h1
        by_cases hle : un A ≤ un B
        · left; exact ⟨.inl h1, by omega⟩
        · right
          have : 0 < ex B := by rcases Nat.eq_zero_or_pos (ex B) with h2 | h2; have := un_int h2; omega; exact h2
          exact ⟨.inl this, by omega⟩
    have someR : (0 < ex (A + B) ∨ A + B < 0) → (0 < ex A ∨ A < 0) ∧ un A ≤ un (A + B) ∨ (0 < ex B ∨ B < 0) ∧ un B ≤ un (A + B) := by
      intro h
      by_cases eA : un A = 1073741824
      · by_cases eB : un B = 1073741824
        · have iA := int_of eA
          have iB := int_of eB
          have eC : un (A + B) = 1073741824 := by omega
          have iC := int_of eC
          omega
        · right
          have : 0 < ex B := by rcases Nat.eq_zero_or_pos (ex B) with h1 | h1; exact absurd (un_int h1) eB; exact h1
          exact ⟨.inl this, by omega⟩
      · have h1 : 0 < ex A := by rcases Nat.eq_zero_or_pos (ex A) with h1 | h1; exact absurd (un_int h1) eA; exact h1
        by_cases hle : un A ≤ un B
        · left; exact ⟨.inl h1, by omega⟩
        · right
          have : 0 < ex B := by rcases Nat.eq_zero_or_pos (ex B) with h2 | h2; have := un_int h2; omega; exact h2
          exact ⟨.inl this, by omega⟩
    constructor
    · refine le_iff.2 ⟨fun x hx k => ?_, fun y hy k => ?_⟩
      · rcases allL x hx with ⟨h, rfl⟩ | ⟨h, rfl⟩
        · have := le_ff.1 (k.trans (la h).2.1); omega
        · have := le_ff.1 (k.trans (lb h).2.1); omega
      · rw [ff_R] at hy
        split at hy
        · rename_i h
          rw [List.mem_singleton] at hy
          subst hy
          rcases someR h with ⟨h1, h2⟩ | ⟨h1, h2⟩
          · exact k.r (ra h1).1 ((ra h1).2.1.trans (le_ff.2 (by omega)))
          · exact k.r (rb h1).1 ((rb h1).2.1.trans (le_ff.2 (by omega)))
        · cases hy
    · refine le_iff.2 ⟨fun y hy k => ?_, fun x hx k => ?_⟩
      · rw [ff_L] at hy
        split at hy
        · rename_i h
          rw [List.mem_singleton] at hy
          subst hy
          rcases someL h with ⟨h1, h2⟩ | ⟨h1, h2⟩
          · exact k.l (la h1).1 (Le.trans (le_ff.2 (by omega)) (la h1).2.2)
          · exact k.l (lb h1).1 (Le.trans (le_ff.2 (by omega)) (lb h1).2.2)
        · cases hy
      · rcases allR x hx with ⟨h, rfl⟩ | ⟨h, rfl⟩
        · have := le_ff.1 ((ra h).2.2.trans k); omega
        · have := le_ff.1 ((rb h).2.2.trans k); omega
theorem add_ff (A B : Int) : Eqv (add (ff A) (ff B)) (ff (A + B)) := add_ff_n _ A B (Nat.le_refl _)
theorem canon_add_ff (A B : Int) : canon (add (ff A) (ff B)) = ff (A + B) := by rw [(canon_iff _ _).1 (add_ff A B), canon_ff]
end Go.Va
end

section
/-
  Plain maths: the number that a form is, read off its options.
-/
set_option linter.unusedVariables false
set_option linter.unusedSimpArgs false
set_option linter.unusedSectionVars false
namespace Go.Va
open Go.Dy
abbrev Rd3 := Int × Int × Bool
def numC : List Rd3 → List Rd3 → Rd3
  | [], [] => (0, 0, true)
  | [a], [] => if a.2.2 then (a.1 + 1, 0, true) else (0, 0, false)
  | [], [b] => if b.2.2 then (b.1 - 1, 0, true) else (0, 0, false)
  | [a], [b] => if a.2.2 && b.2.2 then
      (if val b.1 b.2.1.toNat ≤ val a.1 a.2.1.toNat then (0, 0, false) else
        ((btw (val a.1 a.2.1.toNat) (val b.1 b.2.1.toNat)).1, (btw (val a.1 a.2.1.toNat) (val b.1 b.2.1.toNat)).2.1, decide ((btw (val a.1 a.2.1.toNat) (val b.1 b.2.1.toNat)).2.2 = 0)))
    else (0, 0, false)
  | _, _ => (0, 0, false)
mutual
def numF : Fm → Rd3 | .mk l r => numC (nums l) (nums r)
def nums : List Fm → List Rd3 | [] => [] | x :: l => numF x :: nums l
end
theorem nums_map (l : List Fm) : nums l = l.map numF := by
  induction l with
  | nil => rfl
  | cons x l ih => simp only [nums, ih, List.map_cons]
theorem numF_eq (f : Fm) : numF f = numC (f.L.map numF) (f.R.map numF) := by cases f; simp only [numF, nums_map, Fm.L, Fm.R]
theorem numC_many {l r : List Rd3} (h : 1 < l.length ∨ 1 < r.length) : numC l r = (0, 0, false) := by
  match l, r, h with
  | [], [], h => simp at h
  | [a], [], h => simp at h
  | [], [b], h => simp at h
  | [a], [b], h => simp at h
  | a :: b :: l, [], _ => rfl
  | a :: b :: l, _ :: _, _ => rfl
  | [], a :: b :: r, _ => rfl
  | [_], a :: b :: r, _ => rfl
theorem numC_bad {l r : List Rd3} (h : (∃ a ∈ l, a.2.2 = false) ∨ ∃ a ∈ r, a.2.2 = false) : numC l r = (0, 0, false) := by
  match l, r, h with
  | [], [], h => simp at h
  | [a], [], h => simp at h; simp [numC, h]
  | [], [b], h => simp at h; simp [numC, h]
  | [a], [b], h => simp at h; rcases h with h | h <;> simp [numC, h]
  | a :: b :: l, [], _ => rfl
  | a :: b :: l, _ :: _, _ => rfl
  | [], a :: b :: r, _ => rfl
  | [_], a :: b :: r, _ => rfl
/-- All numbers on the way are within the limits. -/
inductive NV : Fm → Prop
  | mk (f : Fm) (hl : ∀ x ∈ f.L, NV x) (hr : ∀ x ∈ f.R, NV x) (hv : (numF f).2.2 = true → 0 ≤ (numF f).2.1 ∧ Valid (numF f).1 (numF f).2.1.toNat) : NV f
theorem NV.l {f : Fm} (h : NV f) : ∀ x ∈ f.L, NV x := by cases h; assumption
theorem NV.r {f : Fm} (h : NV f) : ∀ x ∈ f.R, NV x := by cases h; assumption
theorem NV.v {f : Fm} (h : NV f) : (numF f).2.2 = true → 0 ≤ (numF f).2.1 ∧ Valid (numF f).1 (numF f).2.1.toNat := by cases h; assumption

/-! ### Between the two neighbours of a fraction is itself -/
theorem val_nu (A : Int) : val (nu A) (ex A) = A := val_strip A
theorem btw_next {A : Int} (h : 0 < ex A) (hb : -1099511627776 ≤ nu A ∧ nu A ≤ 1099511627776) : btw (A - un A) (A + un A) = (nu A, (ex A : Int), 0) := by
  have hl := ex_le A
  have hu := un_pos A
  have low : ∀ x, x < ex A → ¬ lowX (A - un A) x ≤ highX (A + un A) x := by
    intro x hx hle
    have h1 := (inX (A - un A) (A + un A) (lowX (A - un A) x) x (by omega)).1 ⟨Int.le_refl _, hle⟩
    generalize lowX (A - un A) x = m at h1
    -- a multiple of a greater power
    have ho : nu A % 2 = 1 := (nu_odd A).resolve_left (by omega)
    have e1 : val m x = (m * 2 ^ (ex A - x - 1)) * (2 * un A) := by
      unfold val un
      rw [show (2 : Int) * 2 ^ (30 - ex A) = 2 ^ (30 - ex A + 1) by rw [Int.pow_succ, Int.mul_comm], Int.mul_assoc, ← Int.pow_add]
      congr 2
      omega
    have e2 : A = nu A * un A := (nu_un A).symm
    rw [e1] at h1
    generalize m * 2 ^ (ex A - x - 1) = q at h1
    obtain ⟨g1, g2, _, _⟩ := h1
    have e3 : q * (2 * un A) = (2 * q) * un A := by rw [← Int.mul_assoc, Int.mul_comm q 2]
    rw [e3] at g1 g2
    have k1 : (nu A - 1) * un A < (2 * q) * un A := by rw [Int.sub_mul, Int.one_mul, nu_un]; exact g1
    have k2 : (2 * q) * un A < (nu A + 1) * un A := by rw [Int.add_mul, Int.one_mul, nu_un]; exact g2
    have j1 := Int.lt_of_mul_lt_mul_right k1 (Int.le_of_lt hu)
    have j2 := Int.lt_of_mul_lt_mul_right k2 (Int.le_of_lt hu)
    omega
  have at_ : near (lowX (A - un A) (ex A)) (highX (A + un A) (ex A)) = nu A ∧ lowX (A - un A) (ex A) ≤ highX (A + un A) (ex A) := by
    have hin := (inX (A - un A) (A + un A) (nu A) (ex A) hl).2 ⟨by rw [val_nu]; omega, by rw [val_nu]; omega, hb.1, hb.2⟩
    have only : ∀ m, lowX (A - un A) (ex A) ≤ m → m ≤ highX (A + un A) (ex A) → m = nu A := by
      intro m h1 h2
      obtain ⟨g1, g2, _, _⟩ := (inX (A - un A) (A + un A) m (ex A) hl).1 ⟨h1, h2⟩
      have e1 : val m (ex A) = m * un A := by unfold val un; rfl
      rw [e1] at g1 g2
      have k1 : (nu A - 1) * un A < m * un A := by rw [Int.sub_mul, Int.one_mul, nu_un]; exact g1
      have k2 : m * un A < (nu A + 1) * un A := by rw [Int.add_mul, Int.one_mul, nu_un]; exact g2
      have j1 := Int.lt_of_mul_lt_mul_right k1 (Int.le_of_lt hu)
      have j2 := Int.lt_of_mul_lt_mul_right k2 (Int.le_of_lt hu)
      omega
    have e1 := only _ (Int.le_refl _) (by omega)
    have e2 := only _ (by omega) (Int.le_refl _)
    refine ⟨?_, by omega⟩
    rw [e1, e2]
    unfold near
    split
    · rfl
    · split
      · rfl
      · omega
  have walk : ∀ k x, x + k = ex A → ∀ fuel, k < fuel → btwF (A - un A) (A + un A) fuel x = (nu A, (ex A : Int), 0) := by
    intro k
    induction k with
    | zero =>
      intro x hx fuel hf
      obtain ⟨fuel, rfl⟩ : ∃ f', fuel = f' + 1 := ⟨fuel - 1, by omega⟩
      have : x = ex A := by omega
      subst this
      rw [btwF_succ, if_pos at_.2, at_.1]
    | succ k ih =>
      intro x hx fuel hf
      obtain ⟨fuel, rfl⟩ : ∃ f', fuel = f' + 1 := ⟨fuel - 1, by omega⟩
      rw [btwF_succ, if_neg (low x (by omega))]
      exact ih (x + 1) (by omega) fuel (by omega)
  exact walk (ex A) 0 (by omega) 31 (by omega)
/-- Within the limits; so are those simpler. -/
def Rg (A : Int) : Prop := -1099511627776 ≤ nu A ∧ nu A ≤ 1099511627776
theorem Rg.step {A d : Int} (h : Rg A) (hd : d = 1 ∨ d = -1) (hc : 0 < ex A ∨ (d = -1 ∧ 0 < A) ∨ (d = 1 ∧ A < 0)) : Rg (A + d * un A) := by
  have hme := me_step hd hc
  unfold Rg at *
  by_cases h0 : 0 < ex A
  · obtain ⟨e, he⟩ : ∃ e, ex A = e + 1 := ⟨ex A - 1, by omega⟩
    have ho : nu A % 2 = 1 := (nu_odd A).resolve_left (by omega)
    have e1 : nu (A + d * un A) = (strip e ((nu A + d) / 2)).1 := by
      unfold nu
      rw [strip_sub]
      show (strip (ex A) (nu A + d)).1 = _
      rw [he]
      conv => lhs; unfold strip
      rw [if_pos (by omega)]
      rfl
    rw [e1]
    exact strip_abs e _ 1099511627776 (by omega) (by omega) (by decide)
  · have he : ex A = 0 := by omega
    have e2 := ex_int (d := d) he
    unfold me at hme
    omega
theorem Rg.l {A : Int} (h : Rg A) (hc : 0 < ex A ∨ 0 < A) : Rg (A - un A) := by
  have := h.step (d := -1) (.inr rfl) (hc.imp id fun h => .inl ⟨rfl, h⟩)
  rwa [show A + -1 * un A = A - un A by omega] at this
theorem Rg.r {A : Int} (h : Rg A) (hc : 0 < ex A ∨ A < 0) : Rg (A + un A) := by
  have := h.step (d := 1) (.inl rfl) (hc.imp id fun h => .inr ⟨rfl, h⟩)
  rwa [Int.one_mul] at this
theorem numF_ff_n : ∀ n A, me A ≤ n → Rg A → numF (ff A) = (nu A, (ex A : Int), true) := by
  intro n
  induction n using Nat.strongRecOn with
  | _ n ih =>
    intro A hn hb
    have hu := un_pos A
    have hA := nu_un A
    rw [numF_eq, ff_L, ff_R]
    rcases Nat.eq_zero_or_pos (ex A) with h0 | h0
    · have hun := un_int h0
      by_cases hp : 0 < A
      · rw [if_pos (.inr hp), if_neg (by omega)]
        have := me_l (A := A) (.inr hp)
        have e1 := ih _ (by omega) (A - un A) (Nat.le_refl _) (hb.l (.inr hp))
        have e2 := ex_int (d := -1) h0
        rw [show A + -1 * un A = A - un A by omega] at e2
        have e3 : nu (A - un A) = nu A - 1 := by
          have h1 := nu_un (A - un A)
          rw [un_int e2] at h1
          rw [hun] at hA
          omega
        simp only [List.map_cons, List.map_nil, e1, e3, numC, if_true, h0]
        simp
      · by_cases hm : A < 0
        · rw [if_neg (by omega), if_pos (.inr hm)]
          have := me_r (A := A) (.inr hm)
          have e1 := ih _ (by omega) (A + un A) (Nat.le_refl _) (hb.r (.inr hm))
          have e2 := ex_int (d := 1) h0
          rw [Int.one_mul] at e2
          have e3 : nu (A + un A) = nu A + 1 := by
            have h1 := nu_un (A + un A)
            rw [un_int e2] at h1
            rw [hun] at hA
            omega
          simp only [List.map_cons, List.map_nil, e1, e3, numC, if_true, h0]
          simp
        · rw [if_neg (by omega), if_neg (by omega)]
          have : nu A = 0 := by rw [hun] at hA; omega
          simp only [List.map_nil, numC, this, h0]
          simp
    · rw [if_pos (.inl h0), if_pos (.inl h0)]
      have := me_l (A := A) (.inl h0)
      have := me_r (A := A) (.inl h0)
      have e1 := ih _ (by omega) (A - un A) (Nat.le_refl _) (hb.l (.inl h0))
      have e2 := ih _ (by omega) (A + un A) (Nat.le_refl _) (hb.r (.inl h0))
      simp only [List.map_cons, List.map_nil, e1, e2, numC, Bool.and_self, if_true, Int.toNat_natCast, val_nu]
      rw [if_neg (by omega), btw_next h0 hb]
      simp
theorem numF_ff {A : Int} (h : Rg A) : numF (ff A) = (nu A, (ex A : Int), true) := numF_ff_n _ A (Nat.le_refl _) h
theorem Rg.valid {A : Int} (h : Rg A) : Valid (nu A) (ex A) := ⟨ex_le A, h.1, h.2, nu_odd A⟩
theorem nv_ff_n : ∀ n A, me A ≤ n → Rg A → NV (ff A) := by
  intro n
  induction n using Nat.strongRecOn with
  | _ n ih =>
    intro A hn hb
    refine .mk _ (fun x hx => ?_) (fun x hx => ?_) fun _ => ?_
    · rw [ff_L] at hx
      split at hx
      · rename_i h
        rw [List.mem_singleton] at hx; subst hx
        have := me_l h
        exact ih _ (by omega) _ (Nat.le_refl _) (hb.l h)
      · cases hx
    · rw [ff_R] at hx
      split at hx
      · rename_i h
        rw [List.mem_singleton] at hx; subst hx
        have := me_r h
        exact ih _ (by omega) _ (Nat.le_refl _) (hb.r h)
      · cases hx
    · rw [numF_ff hb]
      exact ⟨by simp, by simpa using hb.valid⟩
theorem nv_ff {A : Int} (h : Rg A) : NV (ff A) := nv_ff_n _ A (Nat.le_refl _) h
/-! ### Valid fractions -/
theorem nu_val {n : Int} {e : Nat} (h : Valid n e) : nu (val n e) = n ∧ ex (val n e) = e := by
  obtain ⟨he, _, _, ho⟩ := h
  unfold nu ex
  rw [strip_val30 n e he, strip_of_odd e n ho]
  exact ⟨rfl, rfl⟩
theorem rg_val {n : Int} {e : Nat} (h : Valid n e) : Rg (val n e) := by
  unfold Rg
  rw [(nu_val h).1]
  exact ⟨h.2.1, h.2.2.1⟩
theorem val_inj {n m : Int} {e f : Nat} (h : Valid n e) (k : Valid m f) (he : val n e = val m f) : n = m ∧ e = f := by
  have h1 := nu_val h
  have h2 := nu_val k
  rw [he] at h1
  exact ⟨h1.1.symm.trans h2.1, h1.2.symm.trans h2.2⟩
/-- Sizes of whole numbers. -/
theorem sz_whole_n : ∀ (n : Nat) (A : Int), (nu A).natAbs ≤ n → ex A = 0 → sz (ff A) = (nu A).natAbs + 1 := by
  intro n
  induction n with
  | zero =>
    intro A hn h0
    have hA := nu_un A
    rw [un_int h0] at hA
    have h1 : nu A = 0 := by omega
    have : A = 0 := by omega
    rw [sz_eq, ff_L, ff_R, if_neg (by omega), if_neg (by omega)]
    simp [szs]; omega
  | succ n ih =>
    intro A hn h0
    have hA := nu_un A
    have hun := un_int h0
    rw [hun] at hA
    rw [sz_eq, ff_L, ff_R]
    by_cases hp : 0 < A
    · rw [if_pos (.inr hp), if_neg (by omega)]
      have e2 := ex_int (d := -1) h0
      rw [show A + -1 * un A = A - un A by omega] at e2
      have e3 := nu_un (A - un A)
      rw [un_int e2, hun] at e3
      rw [hun]
      simp only [szs]
      rw [hun] at e2
      rw [ih _ (by omega) e2]
      omega
    · by_cases hm : A < 0
      · rw [if_neg (by omega), if_pos (.inr hm)]
        have e2 := ex_int (d := 1) h0
        rw [Int.one_mul] at e2
        have e3 := nu_un (A + un A)
        rw [un_int e2, hun] at e3
        rw [hun]
        simp only [szs]
        rw [hun] at e2
        rw [ih _ (by omega) e2]
        omega
      · rw [if_neg (by omega), if_neg (by omega)]
        simp only [szs]
        omega
theorem sz_whole {A : Int} (h : ex A = 0) : sz (ff A) = (nu A).natAbs + 1 := sz_whole_n _ A (Nat.le_refl _) h
end Go.Va
end

section
/-
  Depths of forms; the size of a sum.
-/
set_option linter.unusedVariables false
namespace Go.Va
mutual
def dp : Fm → Nat | .mk l r => max (dps l) (dps r)
def dps : List Fm → Nat | [] => 0 | x :: l => max (dp x + 1) (dps l)
end
theorem dp_eq (f : Fm) : dp f = max (dps f.L) (dps f.R) := by cases f; simp [dp, Fm.L, Fm.R]
theorem dps_mem {x : Fm} : ∀ {l : List Fm}, x ∈ l → dp x + 1 ≤ dps l
  | [], h => by cases h
  | y :: l, h => by
    simp only [dps]
    rcases List.mem_cons.1 h with rfl | h
    · omega
    · have := dps_mem h; omega
theorem dps_le {n : Nat} : ∀ {l : List Fm}, (∀ x ∈ l, dp x + 1 ≤ n) → dps l ≤ n
  | [], h => by simp [dps]
  | y :: l, h => by
    have := h y (by simp)
    have := dps_le (l := l) fun x hx => h x (by simp [hx])
    simp only [dps]; omega
theorem dp_L {f x : Fm} (h : x ∈ f.L) : dp x + 1 ≤ dp f := by have := dps_mem h; rw [dp_eq f]; omega
theorem dp_R {f x : Fm} (h : x ∈ f.R) : dp x + 1 ≤ dp f := by have := dps_mem h; rw [dp_eq f]; omega
theorem dp_le {f : Fm} {n : Nat} (hl : ∀ x ∈ f.L, dp x + 1 ≤ n) (hr : ∀ x ∈ f.R, dp x + 1 ≤ n) : dp f ≤ n := by
  have := dps_le hl
  have := dps_le hr
  rw [dp_eq f]; omega
theorem dp_sz (f : Fm) : dp f + 1 ≤ sz f := by
  refine Fm.ind (C := fun f => dp f + 1 ≤ sz f) (fun f hl hr => ?_) f
  have h0 := sz_pos f
  have := dp_le (f := f) (n := sz f - 1) (fun x hx => by have := hl x hx; have := sz_L hx; omega) (fun x hx => by have := hr x hx; have := sz_R hx; omega)
  omega
theorem dp_add_n : ∀ n a b, sz a + sz b ≤ n → dp (add a b) ≤ dp a + dp b := by
  intro n
  induction n with
  | zero => intro a b h; have := sz_pos a; omega
  | succ n ih =>
    intro a b h
    refine dp_le (fun x hx => ?_) (fun x hx => ?_)
    · rcases mem_add_L.1 hx with ⟨y, hy, rfl⟩ | ⟨y, hy, rfl⟩
      · have := ih y b (by have := sz_L hy; omega); have := dp_L hy; omega
      · have := ih a y (by have := sz_L hy; omega); have := dp_L hy; omega
    · rcases mem_add_R.1 hx with ⟨y, hy, rfl⟩ | ⟨y, hy, rfl⟩
      · have := ih y b (by have := sz_R hy; omega); have := dp_R hy; omega
      · have := ih a y (by have := sz_R hy; omega); have := dp_R hy; omega
theorem dp_add (a b : Fm) : dp (add a b) ≤ dp a + dp b := dp_add_n _ a b (Nat.le_refl _)
theorem szs_map_mul {g : Fm → Fm} {c : Nat} : ∀ {l : List Fm}, (∀ x ∈ l, sz (g x) ≤ sz x * c) → szs (l.map g) ≤ szs l * c
  | [], _ => by simp [szs]
  | x :: l, h => by
    have h1 := h x (by simp)
    have h2 := szs_map_mul (l := l) fun y hy => h y (by simp [hy])
    simp only [List.map_cons, szs, Nat.add_mul]; omega
theorem add_zero_l (b : Fm) : add zero b = b := by
  refine Fm.ind (C := fun b => add zero b = b) (fun b hl hr => ?_) b
  refine ext ?_ ?_
  · rw [add_L]; simpa [zero, Fm.L] using map_id' hl
  · rw [add_R]; simpa [zero, Fm.R] using map_id' hr
theorem eq_zero_of_sz {f : Fm} (h : sz f ≤ 1) : f = zero := by
  have e := sz_eq f
  refine ext ?_ ?_
  · cases hl : f.L with
    | nil => rfl
    | cons x l => rw [hl] at e; have := sz_pos x; simp only [szs] at e; omega
  · cases hr : f.R with
    | nil => rfl
    | cons x l => rw [hr] at e; have := sz_pos x; simp only [szs] at e; omega
/-- The size of a sum: at most the product of the sizes, doubled for each step of the depths but one. -/
theorem sz_add_n : ∀ n a b, sz a + sz b ≤ n → sz (add a b) ≤ sz a * sz b * 2 ^ (dp a + dp b - 1) := by
  intro n
  induction n with
  | zero => intro a b h; have := sz_pos a; omega
  | succ n ih =>
    intro a b h
    have pa := sz_pos a
    have pb := sz_pos b
    by_cases ha : sz a ≤ 1
    · have e := eq_zero_of_sz ha
      have e1 : sz a = 1 := by omega
      rw [e1, e, add_zero_l, Nat.one_mul]
      exact Nat.le_mul_of_pos_right _ (Nat.pos_of_ne_zero (by simp))
    by_cases hb : sz b ≤ 1
    · have e := eq_zero_of_sz hb
      have e1 : sz b = 1 := by omega
      rw [e1, e, add_zero', Nat.mul_one]
      exact Nat.le_mul_of_pos_right _ (Nat.pos_of_ne_zero (by simp))
    have da : 1 ≤ dp a := by
      have e := sz_eq a
      cases hl : a.L with
      | cons x l => have := dp_L (f := a) (x := x) (by rw [hl]; simp); omega
      | nil =>
        cases hr : a.R with
        | cons x l => have := dp_R (f := a) (x := x) (by rw [hr]; simp); omega
        | nil => rw [hl, hr] at e; simp [szs] at e; omega
    have db : 1 ≤ dp b := by
      have e := sz_eq b
      cases hl : b.L with
      | cons x l => have := dp_L (f := b) (x := x) (by rw [hl]; simp); omega
      | nil =>
        cases hr : b.R with
        | cons x l => have := dp_R (f := b) (x := x) (by rw [hr]; simp); omega
        | nil => rw [hl, hr] at e; simp [szs] at e; omega
    obtain ⟨D, hD⟩ : ∃ D, dp a + dp b - 1 = D + 1 := ⟨dp a + dp b - 2, by omega⟩
    have g1 : ∀ x, sz x < sz a → dp x + 1 ≤ dp a → sz (add x b) ≤ sz x * (sz b * 2 ^ D) := fun x h1 h2 => by
      have := ih x b (by omega)
      rw [Nat.mul_assoc] at this
      refine Nat.le_trans this (Nat.mul_le_mul_left _ (Nat.mul_le_mul_left _ (Nat.pow_le_pow_right (by decide) (by omega))))
    have g2 : ∀ x, sz x < sz b → dp x + 1 ≤ dp b → sz (add a x) ≤ sz x * (sz a * 2 ^ D) := fun x h1 h2 => by
      have := ih a x (by omega)
      rw [Nat.mul_comm (sz a), Nat.mul_assoc] at this
      refine Nat.le_trans this (Nat.mul_le_mul_left _ (Nat.mul_le_mul_left _ (Nat.pow_le_pow_right (by decide) (by omega))))
    rw [sz_eq (add a b), add_L, add_R, szs_app, szs_app, hD]
    have k1 := szs_map_mul (g := (add · b)) (l := a.L) fun x hx => g1 x (sz_L hx) (dp_L hx)
    have k2 := szs_map_mul (g := (add a ·)) (l := b.L) fun x hx => g2 x (sz_L hx) (dp_L hx)
    have k3 := szs_map_mul (g := (add · b)) (l := a.R) fun x hx => g1 x (sz_R hx) (dp_R hx)
    have k4 := szs_map_mul (g := (add a ·)) (l := b.R) fun x hx => g2 x (sz_R hx) (dp_R hx)
    have ea := sz_eq a
    have eb := sz_eq b
    have q1 : szs a.L * (sz b * 2 ^ D) + szs a.R * (sz b * 2 ^ D) + sz b * 2 ^ D = sz a * sz b * 2 ^ D := by
      rw [Nat.mul_assoc (sz a), ea, Nat.add_mul, Nat.add_mul, Nat.one_mul]; omega
    have q2 : szs b.L * (sz a * 2 ^ D) + szs b.R * (sz a * 2 ^ D) + sz a * 2 ^ D = sz a * sz b * 2 ^ D := by
      rw [Nat.mul_comm (sz a) (sz b), Nat.mul_assoc (sz b), eb, Nat.add_mul, Nat.add_mul, Nat.one_mul]; omega
    have q3 : sz a * sz b * 2 ^ (D + 1) = sz a * sz b * 2 ^ D + sz a * sz b * 2 ^ D := by rw [Nat.pow_succ, ← Nat.mul_assoc]; omega
    have q4 : 1 ≤ sz b * 2 ^ D := Nat.mul_pos pb (Nat.pow_pos (by decide))
    rw [q3]
    omega
theorem sz_add (a b : Fm) : sz (add a b) ≤ sz a * sz b * 2 ^ (dp a + dp b - 1) := sz_add_n _ a b (Nat.le_refl _)
/-- With bounds. -/
theorem sz_add_le {a b : Fm} {m n D : Nat} (ha : sz a ≤ m) (hb : sz b ≤ n) (hd : dp a + dp b - 1 ≤ D) : sz (add a b) ≤ m * n * 2 ^ D :=
  Nat.le_trans (sz_add a b) (Nat.mul_le_mul (Nat.mul_le_mul ha hb) (Nat.pow_le_pow_right (by decide) hd))
end Go.Va
end

section
/-
  The reference's way to canonical forms: bypassing in the negative, options inserted one after another.
-/
set_option linter.unusedVariables false
namespace Go.Va
theorem find_neg (w : Fm) : ∀ l : List Fm, (l.map neg).find? (fun z => leq z (neg w)) = (l.find? (fun z => leq w z)).map neg
  | [] => rfl
  | x :: l => by
    simp only [List.map_cons, List.find?_cons, leq_neg, find_neg w l]
    cases leq w x <;> rfl
/-- Bypassing in the negative is turning. -/
theorem byp_neg (w : Fm) : ∀ (l pre : List Fm), byp (neg w) (pre.map neg) (l.map neg) = (tur w pre l).map (List.map neg)
  | [], pre => by simp [byp, tur]
  | x :: l, pre => by
    have ih := byp_neg w l (pre ++ [x])
    simp only [List.map_cons, byp, tur, neg_R, find_neg]
    rw [List.map_append, List.map_cons, List.map_nil] at ih
    cases h : x.L.find? (fun z => leq w z) with
    | some z => simp [neg_L]
    | none => simp only [Option.map_none]; exact ih
/-- Insertion one after another. -/
def insS (l : List Fm) : List Fm := l.foldl (fun o x => ins x o) []
theorem insS_snoc (l : List Fm) (x : Fm) : insS (l ++ [x]) = ins x (insS l) := by unfold insS; rw [List.foldl_append]; rfl
theorem insS_perm_n : ∀ (l o : List Fm), (l.foldl (fun o x => ins x o) o).Perm (l ++ o)
  | [], o => .refl _
  | x :: l, o => by
    simp only [List.foldl_cons, List.cons_append]
    refine (insS_perm_n l (ins x o)).trans ?_
    refine ((ins_perm x o).append_left l).trans ?_
    exact List.perm_middle
theorem insS_perm (l : List Fm) : (insS l).Perm l := by have := insS_perm_n l []; rwa [List.append_nil] at this
theorem insS_srt_n : ∀ (l o : List Fm), Srt o → (l ++ o).Nodup → Srt (l.foldl (fun o x => ins x o) o)
  | [], o, ho, _ => ho
  | x :: l, o, ho, hn => by
    simp only [List.foldl_cons]
    simp only [List.cons_append, List.nodup_cons, List.mem_append, not_or] at hn
    refine insS_srt_n l (ins x o) (ins_srt x o ho fun y hy e => hn.1.2 (e ▸ hy)) ?_
    have hp : (x :: (l ++ o)).Perm (l ++ ins x o) := (List.perm_middle.symm).trans ((ins_perm x o).symm.append_left l)
    rw [← hp.nodup_iff]
    exact List.nodup_cons.2 ⟨by simp [hn.1], hn.2⟩
theorem insS_srt (l : List Fm) (hn : l.Nodup) : Srt (insS l) := insS_srt_n l [] (by unfold Srt; exact .nil) (by simpa using hn)
/-- Sorted lists of the same forms are the same. -/
theorem insS_eq {l m : List Fm} (hp : l.Perm m) (hn : l.Nodup) : insS l = sortT m :=
  srt_ext (insS_srt l hn) (sortT_srt m (hp.nodup_iff.1 hn)) fun x => by rw [(insS_perm l).mem_iff, sortT_mem, hp.mem_iff]
/-- The place where a form is inserted. -/
def atT (x : Fm) (l : List Fm) : Nat := (l.takeWhile fun y => tlt (pr y) (pr x)).length
theorem ins_at (x : Fm) : ∀ l : List Fm, ins x l = l.take (atT x l) ++ x :: l.drop (atT x l)
  | [] => rfl
  | y :: l => by
    unfold ins atT
    rw [List.takeWhile_cons]
    split
    · rename_i h
      simp only [List.length_cons, List.take_succ_cons, List.drop_succ_cons, List.cons_append]
      rw [ins_at x l]; rfl
    · simp
theorem atT_le (x : Fm) : ∀ l : List Fm, atT x l ≤ l.length
  | [] => Nat.le_refl _
  | y :: l => by
    unfold atT
    rw [List.takeWhile_cons]
    split
    · have := atT_le x l; unfold atT at this; simp only [List.length_cons]; omega
    · simp
theorem atT_lt (x : Fm) : ∀ (l : List Fm) (i : Nat) (h : i < l.length), i < atT x l → tlt (pr l[i]) (pr x) = true
  | y :: l, i, h, hi => by
    unfold atT at hi
    rw [List.takeWhile_cons] at hi
    split at hi
    · rename_i hy
      cases i with
      | zero => exact hy
      | succ i => exact atT_lt x l i (by simpa using h) (by unfold atT; simpa using hi)
    · simp at hi
theorem atT_stop (x : Fm) : ∀ (l : List Fm) (h : atT x l < l.length), tlt (pr l[atT x l]) (pr x) = false
  | [], h => by simp at h
  | y :: l, h => by
    by_cases hy : tlt (pr y) (pr x) = true
    · have e : atT x (y :: l) = atT x l + 1 := by unfold atT; rw [List.takeWhile_cons, if_pos hy]; rfl
      simp only [e, List.length_cons] at h ⊢
      have := atT_stop x l (by omega)
      simpa using this
    · have e : atT x (y :: l) = 0 := by unfold atT; rw [List.takeWhile_cons, if_neg hy]; rfl
      simp only [e, List.getElem_cons_zero]
      simpa using hy
/-- The best options of the negative are the negatives of the best options. -/
theorem bestI_neg (l : List (Fm × Nat)) : bestI leq (l.map fun p => (neg p.1, p.2)) = (bestI (fun x y => leq y x) l).map fun p => (neg p.1, p.2) := by
  unfold bestI
  rw [List.filter_map]
  congr 1
  refine List.filter_congr fun p hp => ?_
  simp only [Function.comp]
  congr 1
  rw [List.any_map]
  refine congrArg (fun f => l.any f) (funext fun q => ?_)
  simp only [Function.comp, dom, leq_neg]
theorem zipIdx_map' (f : Fm → Fm) : ∀ (l : List Fm) (n : Nat), (l.map f).zipIdx n = (l.zipIdx n).map fun p => (f p.1, p.2)
  | [], n => rfl
  | x :: l, n => by simp [List.zipIdx_cons, zipIdx_map' f l (n + 1)]
theorem best_neg (l : List Fm) : best leq (l.map neg) = (best (fun x y => leq y x) l).map neg := by
  unfold best
  rw [zipIdx_map', bestI_neg, List.map_map, List.map_map]
  rfl
theorem neg_inj {f g : Fm} (h : neg f = neg g) : f = g := by rw [← neg_neg f, h, neg_neg]
theorem nodup_neg {l : List Fm} (h : l.Nodup) : (l.map neg).Nodup := by
  unfold List.Nodup at *
  rw [List.pairwise_map]
  exact h.imp fun hab e => hab (neg_inj e)
theorem map_neg_neg (l : List Fm) : (l.map neg).map neg = l := by rw [List.map_map]; exact map_id' fun x _ => neg_neg x
/-- The reference's canonical form. -/
theorem fin_ref (l r : List Fm) : let p := loop (szs l + szs r + 1) l r
    fin l r = .mk (insS (best leq p.1)) (insS ((insS (best leq (p.2.map neg))).map neg)) := by
  intro p
  have e1 : insS (best leq p.1) = sortT (best leq p.1) := insS_eq (.refl _) (best_nodup pre_le _)
  have e2 : insS ((insS (best leq (p.2.map neg))).map neg) = sortT (best (fun x y => leq y x) p.2) := by
    have hp : ((insS (best leq (p.2.map neg))).map neg).Perm (best (fun x y => leq y x) p.2) := by
      refine ((insS_perm _).map neg).trans ?_
      rw [best_neg, map_neg_neg]
    exact insS_eq hp (hp.nodup_iff.2 (best_nodup pre_ge _))
  rw [e1, e2]
  rfl
end Go.Va
end

section
/-
  The fixed examples.
-/
set_option linter.unusedVariables false
set_option maxRecDepth 100000
namespace Go.Va
open Go.Dy (val)
def one : Fm := .mk [zero] []
def less : Fm := .mk [] [zero]
def star : Fm := .mk [zero] [zero]
def half : Fm := .mk [zero] [one]
def hot : Fm := .mk [one] [less]
theorem one_ff : ff 1073741824 = one := by
  refine ext ?_ ?_
  · rw [ff_L, if_pos (by decide +kernel), show (1073741824 : Int) - un 1073741824 = 0 by decide +kernel, ff_zero]; rfl
  · rw [ff_R, if_neg (by decide +kernel)]; rfl
theorem less_ff : ff (-1073741824) = less := by
  refine ext ?_ ?_
  · rw [ff_L, if_neg (by decide +kernel)]; rfl
  · rw [ff_R, if_pos (by decide +kernel), show (-1073741824 : Int) + un (-1073741824) = 0 by decide +kernel, ff_zero]; rfl
theorem half_ff : ff 536870912 = half := by
  refine ext ?_ ?_
  · rw [ff_L, if_pos (by decide +kernel), show (536870912 : Int) - un 536870912 = 0 by decide +kernel, ff_zero]; rfl
  · rw [ff_R, if_pos (by decide +kernel), show (536870912 : Int) + un 536870912 = 1073741824 by decide +kernel, one_ff]; rfl
theorem canon_half : canon half = ff 536870912 := by rw [← half_ff, canon_ff]
theorem canon_star : canon star = star := by decide +kernel
theorem num_star : numF star = (0, 0, false) := by decide +kernel
theorem nv_zero : NV zero := .mk _ (by simp [zero, Fm.L]) (by simp [zero, Fm.R]) (fun _ => by
  rw [show numF zero = (0, 0, true) by decide +kernel]
  exact ⟨Int.le_refl 0, Nat.zero_le _, by decide, by decide, .inl rfl⟩)
theorem nv_star : NV star := .mk _ (by simp [star, Fm.L, nv_zero]) (by simp [star, Fm.R, nv_zero]) (fun h => by rw [num_star] at h; cases h)
theorem canon_mid {A B : Int} (ha : A < 0) (hb : 0 < B) : canon (.mk [ff A] [ff B]) = ff 0 := by
  have h : Eqv (.mk [ff A] [ff B]) zero := by
    constructor
    · refine le_iff.2 ⟨fun x hx => ?_, fun y hy => by simp [zero, Fm.R] at hy⟩
      simp only [Fm.L, List.mem_singleton] at hx
      subst hx
      rw [← ff_zero, le_ff]; omega
    · refine le_iff.2 ⟨fun x hx => by simp [zero, Fm.L] at hx, fun y hy => ?_⟩
      simp only [Fm.R, List.mem_singleton] at hy
      subst hy
      rw [← ff_zero, le_ff]; omega
  rw [(canon_iff _ _).1 h, ← ff_zero, canon_ff]
theorem canon_ss : canon (add star star) = zero := by decide +kernel
theorem sz_ss : sz (add star star) = 13 := by decide +kernel
end Go.Va
end

section
/-
  The numbers of small forms stay within the limits.
-/
set_option linter.unusedVariables false
namespace Go.Va
open Go.Dy
theorem near_in {l h : Int} (hle : l ≤ h) : l ≤ near l h ∧ near l h ≤ h := by unfold near; split <;> (try split) <;> omega
theorem near_self (l : Int) : near l l = l := by have := near_in (Int.le_refl l); omega
theorem btw_spec (A B : Int) : ∀ (f x0 : Nat), (x0 = 0 ∨ highX B (x0 - 1) < lowX A (x0 - 1)) → x0 + f = 31 → btwF A B f x0 = (0, 0, 190) ∨ ∃ (n : Int) (x : Nat), btwF A B f x0 = (n, (x : Int), 0) ∧ x ≤ 30 ∧ x0 ≤ x ∧ (∀ y, x0 ≤ y → y < x → highX B y < lowX A y) ∧ A < val n x ∧ val n x < B ∧ (x = 0 ∨ n % 2 = 1) := by
  intro f
  induction f with
  | zero => intro x0 _ _; left; rw [btwF]
  | succ f ih =>
    intro x0 h0 hf
    rw [btwF_succ]
    by_cases hle : lowX A x0 ≤ highX B x0
    · right
      rw [if_pos hle]
      have hn := near_in hle
      have hin := (inX A B (near (lowX A x0) (highX B x0)) x0 (by omega)).1 hn
      refine ⟨_, x0, rfl, by omega, Nat.le_refl _, fun y h1 h2 => by omega, hin.1, hin.2.1, ?_⟩
      rcases h0 with h0 | h0
      · exact .inl h0
      · by_cases hz : x0 = 0
        · exact .inl hz
        · obtain ⟨x1, rfl⟩ : ∃ x1, x0 = x1 + 1 := ⟨x0 - 1, by omega⟩
          obtain ⟨e1, e2⟩ := one_only A B x1 (by omega) h0 hle
          right
          rw [← e1, near_self]; exact e2
    · rw [if_neg hle]
      rcases ih (x0 + 1) (.inr (by simp only [Nat.add_sub_cancel]; omega)) (by omega) with h | ⟨n, x, h1, h2, h3, h4, h5⟩
      · exact .inl h
      · exact .inr ⟨n, x, h1, h2, by omega, fun y k1 k2 => by
          by_cases e : y = x0
          · subst e; omega
          · exact h4 y (by omega) k2, h5⟩
theorem btw_cases (A B : Int) : btw A B = (0, 0, 190) ∨ ∃ (n : Int) (x : Nat), btw A B = (n, (x : Int), 0) ∧ x ≤ 30 ∧ (∀ y, y < x → highX B y < lowX A y) ∧ A < val n x ∧ val n x < B ∧ (x = 0 ∨ n % 2 = 1) := by
  rcases btw_spec A B 31 0 (.inl rfl) rfl with h | ⟨n, x, h1, h2, h3, h4, h5⟩
  · exact .inl h
  · exact .inr ⟨n, x, h1, h2, fun y k => h4 y (Nat.zero_le _) k, h5⟩
theorem pow_split {a b : Nat} (h : a ≤ b) : (2 : Int) ^ b = 2 ^ (b - a) * 2 ^ a := by rw [← Int.pow_add]; congr 1; omega
/-- The middle has an exponent of one more. -/
theorem mid_in {a b : Int} {ea eb E : Nat} (ha : ea ≤ E) (hb : eb ≤ E) (hE : E ≤ 10) (hn : a.natAbs ≤ 1048576 ∧ b.natAbs ≤ 1048576) (hlt : val a ea < val b eb) : lowX (val a ea) (E + 1) ≤ highX (val b eb) (E + 1) := by
  have pa := pow_split (show 30 - E ≤ 30 - ea by omega)
  have pb := pow_split (show 30 - E ≤ 30 - eb by omega)
  have pE : (2 : Int) ^ (30 - E) = 2 * 2 ^ (30 - (E + 1)) := by rw [show 30 - E = (30 - (E + 1)) + 1 by omega, Int.pow_succ, Int.mul_comm]
  have hp := two_pow_pos (30 - (E + 1))
  have ka : (2 : Int) ^ (30 - ea - (30 - E)) ≤ 1024 := by
    have := two_pow_le (show 30 - ea - (30 - E) ≤ 10 by omega); exact this
  have kb : (2 : Int) ^ (30 - eb - (30 - E)) ≤ 1024 := by
    have := two_pow_le (show 30 - eb - (30 - E) ≤ 10 by omega); exact this
  have qa := two_pow_pos (30 - ea - (30 - E))
  have qb := two_pow_pos (30 - eb - (30 - E))
  have bound : ∀ (m p : Int), m.natAbs ≤ 1048576 → 0 < p → p ≤ 1024 → -1073741824 ≤ m * p * 1 ∧ m * p * 1 ≤ 1073741824 := fun m p h1 h2 h3 => by
    rw [Int.mul_one]
    constructor
    · have h4 := Int.mul_le_mul_of_nonneg_right (a := -1048576) (b := m) (c := p) (by omega) (by omega)
      omega
    · have h4 := Int.mul_le_mul_of_nonneg_right (a := m) (b := 1048576) (c := p) (by omega) (by omega)
      omega
  have va : val a ea = a * 2 ^ (30 - ea - (30 - E)) * (2 * 2 ^ (30 - (E + 1))) := by unfold val; rw [pa, pE, Int.mul_assoc]
  have vb : val b eb = b * 2 ^ (30 - eb - (30 - E)) * (2 * 2 ^ (30 - (E + 1))) := by unfold val; rw [pb, pE, Int.mul_assoc]
  have ba := bound a _ hn.1 qa ka
  have bb := bound b _ hn.2 qb kb
  rw [Int.mul_one] at ba bb
  generalize a * 2 ^ (30 - ea - (30 - E)) = a' at *
  generalize b * 2 ^ (30 - eb - (30 - E)) = b' at *
  rw [va, vb] at hlt ⊢
  generalize hpp : (2 : Int) ^ (30 - (E + 1)) = p at *
  have hab : a' < b' := by
    rcases Int.lt_or_le a' b' with h | h
    · exact h
    · have := Int.mul_le_mul_of_nonneg_right h (show (0 : Int) ≤ 2 * p by omega); omega
  by_cases hbig : -1099511627776 ≤ a' + b' ∧ a' + b' ≤ 1099511627776
  · have hin := (inX (a' * (2 * p)) (b' * (2 * p)) (a' + b') (E + 1) (by omega)).2 ⟨by
      unfold val
      rw [hpp, Int.add_mul]
      have := Int.mul_lt_mul_of_pos_right hab hp
      have e : a' * (2 * p) = a' * p + a' * p := by rw [Int.mul_left_comm, Int.two_mul]
      omega, by
      unfold val
      rw [hpp, Int.add_mul]
      have := Int.mul_lt_mul_of_pos_right hab hp
      have e : b' * (2 * p) = b' * p + b' * p := by rw [Int.mul_left_comm, Int.two_mul]
      omega, hbig.1, hbig.2⟩
    omega
  · exfalso
    omega
/-- How large the numerator is. -/
theorem num_in {a b n : Int} {ea eb x M : Nat} (ha : ea ≤ 30) (hb : eb ≤ 30) (hx : x ≤ 30) (hn : a.natAbs ≤ M ∧ b.natAbs ≤ M) (h1 : val a ea < val n x) (h2 : val n x < val b eb) : n.natAbs ≤ M * 2 ^ x := by
  have hP := two_pow_pos (30 - x)
  have e30 : ∀ e : Nat, e ≤ 30 → (2 : Int) ^ (30 - e) ≤ 2 ^ x * 2 ^ (30 - x) := fun e he => by
    rw [← Int.pow_add, show x + (30 - x) = 30 by omega]; exact two_pow_le (by omega)
  have low : ∀ (m : Int) (e : Nat), e ≤ 30 → m.natAbs ≤ M → -((M : Int) * (2 ^ x * 2 ^ (30 - x))) ≤ val m e ∧ val m e ≤ (M : Int) * (2 ^ x * 2 ^ (30 - x)) := fun m e he hm => by
    have h3 := e30 e he
    have h4 := two_pow_pos (30 - e)
    unfold val
    generalize (2 : Int) ^ (30 - e) = p at *
    generalize (2 : Int) ^ x * 2 ^ (30 - x) = q at *
    have k1 : (M : Int) * p ≤ (M : Int) * q := Int.mul_le_mul_of_nonneg_left h3 (by omega)
    have k2 : m * p ≤ (M : Int) * p := Int.mul_le_mul_of_nonneg_right (by omega) (by omega)
    have k3 : (-(M : Int)) * p ≤ m * p := Int.mul_le_mul_of_nonneg_right (by omega) (by omega)
    rw [Int.neg_mul] at k3
    omega
  have la := (low a ea ha hn.1).1
  have lb := (low b eb hb hn.2).2
  have hv : val n x = n * 2 ^ (30 - x) := by simp only [val]
  rw [hv] at h1 h2
  rw [← Int.mul_assoc] at la lb
  have hM : ((M * 2 ^ x : Nat) : Int) = (M : Int) * 2 ^ x := by push_cast; rfl
  rw [← hM] at la lb
  generalize M * 2 ^ x = Q at *
  generalize (2 : Int) ^ (30 - x) = P at *
  rcases Int.lt_or_le n 0 with h | h
  · have : -(Q : Int) ≤ n := by
      rcases Int.lt_or_le n (-(Q : Int)) with h5 | h5
      · have := Int.mul_lt_mul_of_pos_right h5 hP
        rw [Int.neg_mul] at this
        omega
      · exact h5
    omega
  · have : n ≤ (Q : Int) := by
      rcases Int.lt_or_le (Q : Int) n with h5 | h5
      · have := Int.mul_lt_mul_of_pos_right h5 hP
        omega
      · exact h5
    omega
structure NB (s : Nat) (r : Rd3) : Prop where
  e0 : 0 ≤ r.2.1
  e : r.2.1.toNat ≤ (s - 1) / 2
  n : r.1.natAbs ≤ 2 ^ (s * s / 4)
  o : r.2.1.toNat = 0 ∨ r.1 % 2 = 1
theorem tab : ∀ s ∈ List.range 9, 1 ≤ s → 2 ^ (s * s / 4) + 1 ≤ 2 ^ ((s + 1) * (s + 1) / 4) := by decide
theorem tab2 : ∀ s ∈ List.range 9, 2 ≤ s → 2 ^ ((s - 1) * (s - 1) / 4) * 2 ^ (s / 2) ≤ 2 ^ ((s + 1) * (s + 1) / 4) := by decide
theorem tab3 : ∀ s ∈ List.range 10, 2 ^ (s * s / 4) ≤ 1048576 := by decide
theorem nb_small : ∀ (s : Nat), s ≤ 9 → ∀ f, sz f ≤ s → (numF f).2.2 = true → NB s (numF f) := by
  intro s
  induction s using Nat.strongRecOn with
  | _ s ih =>
    intro hs f hf ht
    have hsz := sz_eq f
    have hp := sz_pos f
    obtain ⟨s, rfl⟩ : ∃ k, s = k + 1 := ⟨s - 1, by omega⟩
    rw [numF_eq] at ht ⊢
    match hL : f.L, hR : f.R with
    | [], [] => exact ⟨Int.le_refl 0, Nat.zero_le _, Nat.zero_le _, .inl rfl⟩
    | [x], [] =>
      rw [hL, hR] at hsz ht
      simp only [szs] at hsz
      have hx1 := sz_pos x
      simp only [List.map_cons, List.map_nil, numC] at ht ⊢
      cases hxt : (numF x).2.2 with
      | false => rw [hxt] at ht; simp at ht
      | true =>
        have b := ih s (by omega) (by omega) x (by omega) hxt
        have := tab s (List.mem_range.2 (by omega)) (by omega)
        rw [if_pos rfl]
        exact ⟨Int.le_refl 0, Nat.zero_le _, by have := b.n; dsimp only; omega, .inl rfl⟩
    | [], [y] =>
      rw [hL, hR] at hsz ht
      simp only [szs] at hsz
      have hx1 := sz_pos y
      simp only [List.map_cons, List.map_nil, numC] at ht ⊢
      cases hxt : (numF y).2.2 with
      | false => rw [hxt] at ht; simp at ht
      | true =>
        have b := ih s (by omega) (by omega) y (by omega) hxt
        have := tab s (List.mem_range.2 (by omega)) (by omega)
        rw [if_pos rfl]
        exact ⟨Int.le_refl 0, Nat.zero_le _, by have := b.n; dsimp only; omega, .inl rfl⟩
    | [x], [y] =>
      rw [hL, hR] at hsz ht
      simp only [szs] at hsz
      have hx1 := sz_pos x
      have hy1 := sz_pos y
      simp only [List.map_cons, List.map_nil, numC] at ht ⊢
      cases hxt : (numF x).2.2 with
      | false => rw [hxt] at ht; simp at ht
      | true =>
        cases hyt : (numF y).2.2 with
        | false => rw [hxt, hyt] at ht; simp at ht
        | true =>
          rw [hxt, hyt, Bool.and_self, if_pos rfl] at ht
          rw [Bool.and_self, if_pos rfl]
          have b1 := ih (s - 1) (by omega) (by omega) x (by omega) hxt
          have b2 := ih (s - 1) (by omega) (by omega) y (by omega) hyt
          obtain ⟨a0, a1, a2, a3⟩ := b1
          obtain ⟨c0, c1, c2, c3⟩ := b2
          generalize numF x = p at *
          generalize numF y = q at *
          by_cases hge : val q.1 q.2.1.toNat ≤ val p.1 p.2.1.toNat
          · rw [if_pos hge] at ht; simp at ht
          · rw [if_neg hge] at ht ⊢
            have t3 := tab3 (s - 1) (List.mem_range.2 (by omega))
            have t2 := tab2 s (List.mem_range.2 (by omega)) (by omega)
            have hmid := mid_in (E := (s - 1 - 1) / 2) a1 c1 (by omega) ⟨Nat.le_trans a2 t3, Nat.le_trans c2 t3⟩ (by omega)
            rcases btw_cases (val p.1 p.2.1.toNat) (val q.1 q.2.1.toNat) with hb | ⟨n, x, hb, k1, k2, k3, k4, k5⟩
            · rw [hb] at ht; simp at ht
            · rw [hb]
              dsimp only
              have hxE : x ≤ (s - 1 - 1) / 2 + 1 := by
                rcases Nat.lt_or_ge ((s - 1 - 1) / 2 + 1) x with h | h
                · have := k2 _ h; omega
                · exact h
              have hn := num_in (M := 2 ^ ((s - 1) * (s - 1) / 4)) (by omega) (by omega) k1 ⟨a2, c2⟩ k3 k4
              have hpw : 2 ^ x ≤ 2 ^ (s / 2) := Nat.pow_le_pow_right (by decide) (by omega)
              have hmul := Nat.mul_le_mul_left (2 ^ ((s - 1) * (s - 1) / 4)) hpw
              exact ⟨by dsimp only; omega, by dsimp only; omega, by dsimp only; omega, by dsimp only; omega⟩
    | a :: b :: l, [] => rw [hL, hR] at ht; simp [numC] at ht
    | a :: b :: l, _ :: _ => rw [hL, hR] at ht; simp [numC] at ht
    | [], a :: b :: r => rw [hL, hR] at ht; simp [numC] at ht
    | [_], a :: b :: r => rw [hL, hR] at ht; simp [numC] at ht
theorem nv_small : ∀ (s : Nat), s ≤ 9 → ∀ f, sz f ≤ s → NV f := by
  intro s
  induction s with
  | zero => intro _ f hf; have := sz_pos f; omega
  | succ s ih =>
    intro hs f hf
    refine .mk f (fun x hx => ih (by omega) x (by have := sz_L hx; omega)) (fun x hx => ih (by omega) x (by have := sz_R hx; omega)) fun ht => ?_
    have b := nb_small (s + 1) hs f hf ht
    have t3 := tab3 (s + 1) (List.mem_range.2 (by omega))
    obtain ⟨b0, b1, b2, b3⟩ := b
    exact ⟨b0, by omega, by omega, by omega, b3⟩
theorem numF_false (f : Fm) (h : (numF f).2.2 = false) : numF f = (0, 0, false) := by
  rw [numF_eq] at h ⊢
  generalize f.L.map numF = l at *
  generalize f.R.map numF = r at *
  match l, r with
  | [], [] => simp [numC] at h
  | [a], [] =>
    simp only [numC] at h ⊢
    split at h
    · cases h
    · rename_i e; rw [if_neg e]
  | [], [b] =>
    simp only [numC] at h ⊢
    split at h
    · cases h
    · rename_i e; rw [if_neg e]
  | [a], [b] =>
    simp only [numC] at h ⊢
    by_cases e : (a.2.2 && b.2.2) = true
    · rw [if_pos e] at h ⊢
      by_cases e2 : val b.1 b.2.1.toNat ≤ val a.1 a.2.1.toNat
      · rw [if_pos e2]
      · rw [if_neg e2] at h ⊢
        rcases btw_cases (val a.1 a.2.1.toNat) (val b.1 b.2.1.toNat) with hb | ⟨n, x, hb, _⟩
        · rw [hb]; rfl
        · rw [hb] at h; simp at h
    · rw [if_neg e]
  | a :: b :: l, [] => rfl
  | a :: b :: l, _ :: _ => rfl
  | [], a :: b :: r => rfl
  | [_], a :: b :: r => rfl
end Go.Va
end

