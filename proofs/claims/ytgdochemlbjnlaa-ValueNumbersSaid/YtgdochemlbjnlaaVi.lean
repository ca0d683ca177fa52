/-
  Lemmas for the proof of the statement of this claim: a part of the road, no statement of its own. Conditions: those that each lemma names.
-/
import Derived.Test.YtgdochemlbjnlaaVm
import Derived.Test.YtgdochemlbjnlaaVg
section
/-
  The small numbers.
-/
set_option linter.unusedVariables false
namespace Go.Va
open Go.Dy (val strip Valid)
def szF : Nat → Int → Nat
  | 0, _ => 1
  | n + 1, A => 1 + (if 0 < ex A ∨ 0 < A then szF n (A - un A) else 0) + (if 0 < ex A ∨ A < 0 then szF n (A + un A) else 0)
def dpF : Nat → Int → Nat
  | 0, _ => 0
  | n + 1, A => max (if 0 < ex A ∨ 0 < A then dpF n (A - un A) + 1 else 0) (if 0 < ex A ∨ A < 0 then dpF n (A + un A) + 1 else 0)
theorem me_zero {A : Int} (h : me A ≤ 0) : A = 0 := by
  have h1 := nu_un A
  unfold me at h
  have : nu A = 0 := by omega
  rw [this, Int.zero_mul] at h1
  exact h1.symm
theorem szF_eq : ∀ n A, me A ≤ n → szF n A = sz (ff A) := by
  intro n
  induction n with
  | zero => intro A h; rw [me_zero h, ff_zero]; rfl
  | succ n ih =>
    intro A h
    rw [sz_eq, ff_L, ff_R, szF]
    have a1 : (if 0 < ex A ∨ 0 < A then szF n (A - un A) else 0) = szs (if 0 < ex A ∨ 0 < A then [ff (A - un A)] else []) := by
      split
      · rename_i c; rw [ih _ (by have := me_l c; omega)]; simp [szs]
      · rfl
    have a2 : (if 0 < ex A ∨ A < 0 then szF n (A + un A) else 0) = szs (if 0 < ex A ∨ A < 0 then [ff (A + un A)] else []) := by
      split
      · rename_i c; rw [ih _ (by have := me_r c; omega)]; simp [szs]
      · rfl
    rw [a1, a2]
theorem dpF_eq : ∀ n A, me A ≤ n → dpF n A = dp (ff A) := by
  intro n
  induction n with
  | zero => intro A h; rw [me_zero h, ff_zero]; rfl
  | succ n ih =>
    intro A h
    rw [dp_eq, ff_L, ff_R, dpF]
    have a1 : (if 0 < ex A ∨ 0 < A then dpF n (A - un A) + 1 else 0) = dps (if 0 < ex A ∨ 0 < A then [ff (A - un A)] else []) := by
      split
      · rename_i c; rw [ih _ (by have := me_l c; omega)]; simp [dps]
      · rfl
    have a2 : (if 0 < ex A ∨ A < 0 then dpF n (A + un A) + 1 else 0) = dps (if 0 < ex A ∨ A < 0 then [ff (A + un A)] else []) := by
      split
      · rename_i c; rw [ih _ (by have := me_r c; omega)]; simp [dps]
      · rfl
    rw [a1, a2]
/-- From -2 to 2, exponents at most 2. -/
structure Sm (n : Int) (e : Nat) : Prop where
  he : e ≤ 2
  ho : e = 0 ∨ n % 2 = 1
  hn : -(2 ^ (e + 1) : Int) ≤ n ∧ n ≤ 2 ^ (e + 1)
theorem sm_all : ∀ e ∈ List.range 3, ∀ i ∈ List.range 17, me (val ((i : Int) - 8) e) ≤ 12 ∧ ((e = 0 ∨ ((i : Int) - 8) % 2 = 1) → -(2 ^ (e + 1) : Int) ≤ (i : Int) - 8 → (i : Int) - 8 ≤ 2 ^ (e + 1) → szF 12 (val ((i : Int) - 8) e) ≤ 10 ∧ dpF 12 (val ((i : Int) - 8) e) ≤ 4) := by decide +kernel
theorem Sm.bd {n : Int} {e : Nat} (h : Sm n e) : -8 ≤ n ∧ n ≤ 8 := by
  obtain ⟨h1, _, h2, h3⟩ := h
  match e, h1 with
  | 0, _ => simp at h2 h3; omega
  | 1, _ => simp at h2 h3; omega
  | 2, _ => simp at h2 h3; omega
theorem Sm.size {n : Int} {e : Nat} (h : Sm n e) : sz (ff (val n e)) ≤ 10 ∧ dp (ff (val n e)) ≤ 4 := by
  have hb := h.bd
  obtain ⟨a, b⟩ := sm_all e (List.mem_range.2 (by have := h.he; omega)) (n + 8).toNat (List.mem_range.2 (by omega))
  rw [show (((n + 8).toNat : Nat) : Int) - 8 = n by omega] at a b
  have := b h.ho h.hn.1 h.hn.2
  rw [szF_eq 12 _ a, dpF_eq 12 _ a] at this
  exact this
theorem Sm.valid {n : Int} {e : Nat} (h : Sm n e) : Valid n e := ⟨by have := h.he; omega, by have := h.bd; omega, by have := h.bd; omega, h.ho⟩
theorem Sm.val_bd {n : Int} {e : Nat} (h : Sm n e) : -8589934592 ≤ val n e ∧ val n e ≤ 8589934592 := by
  have hb := h.bd
  obtain ⟨h1, _, _⟩ := h
  unfold val
  match e, h1 with
  | 0, _ => simp; omega
  | 1, _ => simp; omega
  | 2, _ => simp; omega
theorem rg_of {A : Int} (h1 : -1099511627776 ≤ A) (h2 : A ≤ 1099511627776) : Rg A := by
  have hn := nu_un A
  have hu := un_pos A
  unfold Rg
  constructor
  · by_cases h : 0 ≤ nu A
    · omega
    · have := Int.mul_le_mul_of_nonpos_left (a := nu A) (b := un A) (c := 1) (by omega) (by omega); omega
  · by_cases h : 0 ≤ nu A
    · have := Int.mul_le_mul_of_nonneg_left (a := 1) (b := un A) (c := nu A) (by omega) h; omega
    · omega
end Go.Va
end

section
/-
  Values: small fractions made.
-/
set_option linter.unusedVariables false
set_option linter.unusedSimpArgs false
set_option linter.unusedSectionVars false
set_option maxHeartbeats 2000000
set_option maxRecDepth 100000
namespace Go.Proofs.Ytgdochemlbjnlaa
open Go Go.Sk Go.Va Go.RowKit
open Go.Dy (strip Valid val btw validB norm cmpF cmpI)
variable {M : Go.Sk.Mode}
attribute [local irreducible] Go.Sk.vCall Go.Sk.Ct
/-- A small fraction's value. -/
def SQ (h : Hp) (v : Value) : Prop := ∃ (n : Int) (e : Nat), v = Fr2 n e ∧ Sm n e
theorem tmod_bd2 (a b : Int) (hb : 0 < b) : -b < a.tmod b ∧ a.tmod b < b := ⟨Int.lt_tmod_of_pos a hb, Int.tmod_lt_of_pos a hb⟩
theorem lmade_ok (n : Int) (e : Nat) (he : e ≤ 2) (hn : -1000 ≤ n ∧ n ≤ 1000) (h : Hp) : Ct Try.prog 21 [I n, I e] h (fun h v => SQ h v) := by
  refine ct21 ?_
  intro w0
  unfold s21
  (repeat (refine Gs.alloc ?_; intro _))
  rename_i rb
  have hp : (2 : Int) * 2 ^ (e : Int).toNat = 2 ^ (e + 1) := by rw [Int.toNat_natCast, Int.pow_succ, Int.mul_comm]
  have hpb : 2 ≤ (2 : Int) ^ (e + 1) ∧ (2 : Int) ^ (e + 1) ≤ 8 := by
    match e, he with
    | 0, _ => decide
    | 1, _ => decide
    | 2, _ => decide
  refine G.shl ⟨by omega, by omega⟩ ⟨by rw [hp]; omega, by rw [hp]; omega⟩ ?_
  rw [hp]
  have hm := tmod_bd2 n (2 ^ (e + 1) + 1) (by omega)
  refine G.add (by omega) ?_
  refine G.rem (by omega) ?_
  generalize n.tmod (2 ^ (e + 1) + 1) = m at *
  (repeat (first | refine G.step ?_ | (refine Gs.alloc ?_; intro _) | refine Gs.store ?_))
  rename_i xb
  refine Gs.lp (β := Int × Nat) (fun _ => ()) (fun _ => h) (fun b => [.blk xb [I b.1, I b.2] 40, .blk rb [I 0, I 0] 40]) (fun b => b.2 ≤ 2 ∧ -(2 ^ (b.2 + 1) : Int) ≤ b.1 ∧ b.1 ≤ 2 ^ (b.2 + 1)) (fun b => b.2) (m, e) rfl ⟨he, by dsimp only; omega, by dsimp only; omega⟩ (fun _ s => s) ?_
  rintro ⟨a, x⟩ ⟨hx, ha, ha'⟩ cont hc
  dsimp only at hx ha ha' hc ⊢
  have hxb : (2 : Int) ^ (x + 1) ≤ 8 := by
    match x, hx with
    | 0, _ => decide
    | 1, _ => decide
    | 2, _ => decide
  refine G.jk ?_; intro _
  refine G.jnP (fun j => j = .bool (decide (0 < x ∧ a % 2 = 0))) ?_ ?_
  · rintro _ rfl
    refine G.jk ?_; intro _
    refine G.ifd ?_ ?_ <;> intro hgo
    · obtain ⟨y, rfl⟩ : ∃ y, x = y + 1 := ⟨x - 1, by omega⟩
      have hy : (2 : Int) ^ (y + 1 + 1) = 2 ^ (y + 1) * 2 := Int.pow_succ 2 (y + 1)
      (repeat (first | refine G.sub (by omega) ?_ | refine G.quo (by omega) (by omega) ?_ | refine G.step ?_ | refine Gs.store ?_))
      have ht := Go.Dy.tdiv2 a hgo.2
      have hgo2 := hc (a / 2, y) ⟨by dsimp only; omega, by dsimp only; omega, by dsimp only; omega⟩ (by dsimp only; omega)
      dsimp only at hgo2
      rw [← ht] at hgo2
      rw [show (((y + 1 : Nat) : Int) - 1) = (y : Int) by omega]
      exact Gs.sel hgo2
    · (repeat (first | refine G.step ?_ | refine Gs.store ?_ | refine G.retc ?_))
      exact Gs.ret ⟨a, x, rfl, hx, by omega, ha, ha'⟩
  · intro K hK
    (repeat (refine G.step ?_))
    refine G.gddt ?_ ?_ <;> intro c1
    · (repeat (first | refine G.rem (by omega) ?_ | refine G.step ?_))
      refine hK _ ?_
      congr 1
      rw [decide_eq_decide, Go.Dy.tmod2]
      omega
    · exact hK _ (by rw [decide_eq_false]; omega)
end Go.Proofs.Ytgdochemlbjnlaa
end

section
/-
  Values: the law ValueNumbers, walked.
-/
set_option linter.unusedVariables false
set_option linter.unusedSimpArgs false
set_option linter.unusedSectionVars false
set_option maxHeartbeats 2000000
set_option maxRecDepth 100000
namespace Go.Proofs.Ytgdochemlbjnlaa
open Go Go.Sk Go.Va Go.RowKit
open Go.Dy (strip Valid val btw validB norm cmpF cmpI)
variable {M : Go.Sk.Mode}
attribute [local irreducible] Go.Sk.vCall Go.Sk.Ct
instance ixW {S : WP} {b : Nat} : Yd Try.prog S (V (Instr.indexAt 37 (ptr b 0) (.int .i64 0))) (ptr b 0) := Yd.ixA (sz := 1) (e := 36) (n := 2) ⟨by decide, by decide⟩ rfl
instance ixW1 {S : WP} {b : Nat} : Yd Try.prog S (V (Instr.indexAt 37 (ptr b 0) (.int .i64 1))) (ptr b 1) := Yd.ixA (sz := 1) (e := 36) (n := 2) ⟨by decide, by decide⟩ rfl
instance ixU {S : WP} {b : Nat} : Yd Try.prog S (V (Instr.indexAt 38 (ptr b 0) (.int .i64 0))) (ptr b 0) := Yd.ixA (sz := 1) (e := 5) (n := 2) ⟨by decide, by decide⟩ rfl
instance ixU1 {S : WP} {b : Nat} : Yd Try.prog S (V (Instr.indexAt 38 (ptr b 0) (.int .i64 1))) (ptr b 1) := Yd.ixA (sz := 1) (e := 5) (n := 2) ⟨by decide, by decide⟩ rfl
def nbS (wb eb : Nat) (a0 b0 : Int) (a1 b1 : UInt8) : Nat → Hp → Value → Prop
  | 0 => fun _ v => v = ptr wb 0 | 1 => fun _ v => v = .int .i8 a0 | 2 => fun _ v => v = I a0
  | 3 => fun _ v => v = ptr eb 0 | 4 => fun _ v => v = .int .u8 a1.toNat | 5 => fun _ v => v = .int .u8 ((a1.toNat : Int) % 3) | 6 => fun _ v => ∃ k : Nat, v = I k ∧ k ≤ 2
  | 7 => SQ
  | 8 => fun _ v => v = ptr wb 1 | 9 => fun _ v => v = .int .i8 b0 | 10 => fun _ v => v = I b0
  | 11 => fun _ v => v = ptr eb 1 | 12 => fun _ v => v = .int .u8 b1.toNat | 13 => fun _ v => v = .int .u8 ((b1.toNat : Int) % 3) | 14 => fun _ v => ∃ k : Nat, v = I k ∧ k ≤ 2
  | 15 => SQ
  | _ => fun _ _ => True
theorem nbS_mono {wb eb : Nat} {a0 b0 : Int} {a1 b1 : UInt8} : ∀ (i : Nat) (h h' : Hp) (v : Value), Hle h h' → nbS wb eb a0 b0 a1 b1 i h v → nbS wb eb a0 b0 a1 b1 i h' v
  | 0, _, _, _, _, s => s
  | 1, _, _, _, _, s => s
  | 2, _, _, _, _, s => s
  | 3, _, _, _, _, s => s
  | 4, _, _, _, _, s => s
  | 5, _, _, _, _, s => s
  | 6, _, _, _, _, s => s
  | 7, _, _, _, _, s => s
  | 8, _, _, _, _, s => s
  | 9, _, _, _, _, s => s
  | 10, _, _, _, _, s => s
  | 11, _, _, _, _, s => s
  | 12, _, _, _, _, s => s
  | 13, _, _, _, _, s => s
  | 14, _, _, _, _, s => s
  | 15, _, _, _, _, s => s
  | _ + 16, _, _, _, _, _ => trivial
theorem SQ.out {h : Hp} {v : Value} (hs : SQ h v) : ∃ x f, v = Fr2 x.1 x.2 ∧ x = f ∧ ∃ (n : Int) (e : Nat), f = (n, (e : Int)) ∧ Sm n e := by
  obtain ⟨n, e, rfl, hm⟩ := hs
  exact ⟨(n, (e : Int)), _, rfl, rfl, n, e, rfl, hm⟩
theorem numbers_ok (a0 b0 : Int) (a1 b1 : UInt8) (h : Hp) (ha : -128 ≤ a0 ∧ a0 ≤ 127) (hb : -128 ≤ b0 ∧ b0 ≤ 127) : Ct Try.prog 6 [.agg #[.int .i8 a0, .int .i8 b0], .agg #[.int .u8 a1.toNat, .int .u8 b1.toNat]] h (fun _ v => v = .bool true) := by
  refine ct6 ?_
  intro w0
  unfold s6
  (repeat (refine Gs.box ?_; intro _))
  rename_i wb eb
  refine Gs.callv0 (sanity_ok h) ?_
  refine Gs.dr ?_
  have u1 := u8b a1
  have u2 := u8b b1
  refine twoF_in 16 (nbS wb eb a0 b0 a1 b1) (fun f => ∃ (n : Int) (e : Nat), f = (n, (e : Int)) ∧ Sm n e) (fun f => ∃ (n : Int) (e : Nat), f = (n, (e : Int)) ∧ Sm n e) rfl rfl nbS_mono (v1 := 7) (v2 := 15) (fun h v hs => SQ.out (h := h) hs) (fun h v hs => SQ.out (h := h) hs) (by decide) (by decide) (by decide) ?_ ?_
  · intro i d st hi hl h' t K' L' hsub le hd hK
    haveI : Blk L' wb [.int .i8 a0, .int .i8 b0] 37 := ⟨hsub _ (by simp)⟩
    haveI : Blk L' eb [.int .u8 a1.toNat, .int .u8 b1.toNat] 38 := ⟨hsub _ (by simp)⟩
    match i, hi, hl, hK with
    | 0, _, hl, hK =>
      obtain ⟨rfl, rfl⟩ := Prod.mk.inj (Option.some.inj hl)
      refine G.step ?_
      exact hK _ _ (Hle.refl _) rfl
    | 1, _, hl, hK =>
      obtain ⟨rfl, rfl⟩ := Prod.mk.inj (Option.some.inj hl)
      have e : t 0 = ptr wb 0 := hd 0 (by decide) (by decide)
      dsimp only; rw [e]; refine G.step ?_; exact hK _ _ (Hle.refl _) rfl
    | 2, _, hl, hK =>
      obtain ⟨rfl, rfl⟩ := Prod.mk.inj (Option.some.inj hl)
      have e : t 1 = .int .i8 a0 := hd 1 (by decide) (by decide)
      dsimp only; rw [e]; refine G.conv (by omega) ?_; exact hK _ _ (Hle.refl _) rfl
    | 3, _, hl, hK =>
      obtain ⟨rfl, rfl⟩ := Prod.mk.inj (Option.some.inj hl)
      refine G.step ?_
      exact hK _ _ (Hle.refl _) rfl
    | 4, _, hl, hK =>
      obtain ⟨rfl, rfl⟩ := Prod.mk.inj (Option.some.inj hl)
      have e : t 3 = ptr eb 0 := hd 3 (by decide) (by decide)
      dsimp only; rw [e]; refine G.step ?_; exact hK _ _ (Hle.refl _) rfl
    | 5, _, hl, hK =>
      obtain ⟨rfl, rfl⟩ := Prod.mk.inj (Option.some.inj hl)
      have e : t 4 = .int .u8 (a1.toNat : Int) := hd 4 (by decide) (by decide)
      dsimp only; rw [e]; refine G.rem8 (by omega) (by omega) ?_; exact hK _ _ (Hle.refl _) rfl
    | 6, _, hl, hK =>
      obtain ⟨rfl, rfl⟩ := Prod.mk.inj (Option.some.inj hl)
      have e : t 5 = .int .u8 ((a1.toNat : Int) % 3) := hd 5 (by decide) (by decide)
      dsimp only; rw [e]; refine G.conv (by omega) ?_; exact hK _ _ (Hle.refl _) ⟨a1.toNat % 3, by simp, by omega⟩
    | 7, _, hl, hK =>
      obtain ⟨rfl, rfl⟩ := Prod.mk.inj (Option.some.inj hl)
      have e : t 2 = I a0 := hd 2 (by decide) (by decide)
      obtain ⟨k, e2, hk2⟩ : ∃ k : Nat, t 6 = I k ∧ k ≤ 2 := hd 6 (by decide) (by decide)
      dsimp only; rw [e, e2]
      exact Gs.call0 (lmade_ok a0 k hk2 (by omega) h') fun v h2 le2 hp => hK h2 v le2 hp
    | 8, _, hl, hK =>
      obtain ⟨rfl, rfl⟩ := Prod.mk.inj (Option.some.inj hl)
      refine G.step ?_
      exact hK _ _ (Hle.refl _) rfl
    | 9, _, hl, hK =>
      obtain ⟨rfl, rfl⟩ := Prod.mk.inj (Option.some.inj hl)
      have e : t 8 = ptr wb 1 := hd 8 (by decide) (by decide)
      dsimp only; rw [e]; refine G.step ?_; exact hK _ _ (Hle.refl _) rfl
    | 10, _, hl, hK =>
      obtain ⟨rfl, rfl⟩ := Prod.mk.inj (Option.some.inj hl)
      have e : t 9 = .int .i8 b0 := hd 9 (by decide) (by decide)
      dsimp only; rw [e]; refine G.conv (by omega) ?_; exact hK _ _ (Hle.refl _) rfl
    | 11, _, hl, hK =>
      obtain ⟨rfl, rfl⟩ := Prod.mk.inj (Option.some.inj hl)
      refine G.step ?_
      exact hK _ _ (Hle.refl _) rfl
    | 12, _, hl, hK =>
      obtain ⟨rfl, rfl⟩ := Prod.mk.inj (Option.some.inj hl)
      have e : t 11 = ptr eb 1 := hd 11 (by decide) (by decide)
      dsimp only; rw [e]; refine G.step ?_; exact hK _ _ (Hle.refl _) rfl
    | 13, _, hl, hK =>
      obtain ⟨rfl, rfl⟩ := Prod.mk.inj (Option.some.inj hl)
      have e : t 12 = .int .u8 (b1.toNat : Int) := hd 12 (by decide) (by decide)
      dsimp only; rw [e]; refine G.rem8 (by omega) (by omega) ?_; exact hK _ _ (Hle.refl _) rfl
    | 14, _, hl, hK =>
      obtain ⟨rfl, rfl⟩ := Prod.mk.inj (Option.some.inj hl)
      have e : t 13 = .int .u8 ((b1.toNat : Int) % 3) := hd 13 (by decide) (by decide)
      dsimp only; rw [e]; refine G.conv (by omega) ?_; exact hK _ _ (Hle.refl _) ⟨b1.toNat % 3, by simp, by omega⟩
    | 15, _, hl, hK =>
      obtain ⟨rfl, rfl⟩ := Prod.mk.inj (Option.some.inj hl)
      have e : t 10 = I b0 := hd 10 (by decide) (by decide)
      obtain ⟨k, e2, hk2⟩ : ∃ k : Nat, t 14 = I k ∧ k ≤ 2 := hd 14 (by decide) (by decide)
      dsimp only; rw [e, e2]
      exact Gs.call0 (lmade_ok b0 k hk2 (by omega) h') fun v h2 le2 hp => hK h2 v le2 hp
    | k + 16, hi, _, _ => exact absurd hi (by omega)
  · intro h1 t xb yb x1 x2 f1 f2 le1 e1 e2 q1 q2 Q1 Q2
    subst q1 q2
    obtain ⟨n, e, rfl, sx⟩ := Q1
    obtain ⟨m, f, rfl, sy⟩ := Q2
    have e2 : t 17 = ptr yb 0 := e2
    rw [e1, e2]
    clear e1 e2
    dsimp only
    have va := sx.valid
    have vb := sy.valid
    have dx : Vd n e := ⟨va.1, va.2.2.2, by have := sx.bd; omega, by have := sx.bd; omega⟩
    have dy : Vd m f := ⟨vb.1, vb.2.2.2, by have := sy.bd; omega, by have := sy.bd; omega⟩
    have zx := sx.size
    have zy := sy.size
    have bx := sx.val_bd
    have bY := sy.val_bd
    have ra : Rg (val n e) := rg_val va
    have rs : Rg (val n e + val m f) := rg_of (by omega) (by omega)
    have hnorm : norm (val n e + val m f) = (nu (val n e + val m f), (ex (val n e + val m f) : Int), 0) := by
      have := Go.Dy.norm_val _ _ rs.valid
      rwa [val_nu] at this
    have hcmp : decide (cmpF n e m f ≤ 0) = decide (val n e ≤ val m f) := by
      rw [Go.Dy.cmp_val n e m f va.1 vb.1, decide_eq_decide]
      unfold Go.Dy.cmpI
      split
      · omega
      · split <;> omega
    have n1 := dx.nu
    have zadd : sz (add (ff (val n e)) (ff (val m f))) ≤ 12800 := Nat.le_trans (sz_add_le zx.1 zy.1 (show dp (ff (val n e)) + dp (ff (val m f)) - 1 ≤ 7 by omega)) (by decide)
    (repeat (refine G.step ?_))
    refine Gs.call0 (of_ok n e h1 dx) ?_
    rintro _ h2 le2 hOf
    obtain ⟨xa, rfl, r1⟩ := hOf.yes (by omega)
    (repeat (first | refine G.step ?_ | (refine Gs.alloc ?_; intro _) | refine Gs.store ?_))
    refine Gs.call0 (of_ok m f h2 dy) ?_
    rintro _ h3 le3 hOf2
    obtain ⟨xb2, rfl, r2⟩ := hOf2.yes (by omega)
    replace r1 := r1.mono le3
    (repeat (first | refine G.step ?_ | (refine Gs.alloc ?_; intro _) | refine Gs.store ?_))
    have h03 : Hle h h3 := le1.trans (le2.trans le3)
    refine G.jnP (fun j => j = .bool false) ?_ ?_
    · rintro _ rfl
      refine G.jk ?_; intro _
      (repeat (first | refine G.step ?_ | refine G.iff ?_))
      refine Gs.callv0 (Q.rAdd_ok n e m f h3 va vb) ?_
      rw [hnorm]
      (repeat (first | refine G.step ?_ | (refine Gs.alloc ?_; intro _) | refine Gs.store ?_))
      refine G.jnP (fun j => j = .bool false) ?_ ?_
      · rintro _ rfl
        refine G.jk ?_; intro _
        have hn1 := Number_ff (M := M) (val n e) ra (ff (val n e)) (canon_ff _) xa h3 r1 (by omega)
        rw [n1.1, n1.2] at hn1
        (repeat (first | refine G.step ?_ | refine G.iff ?_))
        refine Gs.callv0 hn1 ?_
        (repeat (first | refine G.step ?_ | (refine Gs.alloc ?_; intro _) | refine Gs.store ?_))
        refine Gs.call0 (add_ok (sz (ff (val n e)) + sz (ff (val m f))) _ _ (Nat.le_refl _) (by omega) h3 xa xb2 r1 r2) ?_
        rintro _ h4 le4 ⟨z, rfl, rz⟩
        refine Gs.callv0 (Number_ff (val n e + val m f) rs _ (canon_add_ff _ _) z h4 rz (by omega)) ?_
        (repeat (first | refine G.step ?_ | (refine Gs.alloc ?_; intro _) | refine Gs.store ?_))
        refine Gs.call0 (neg_ok (sz (ff (val n e))) _ (Nat.le_refl _) (by omega) h4 xa (r1.mono le4)) ?_
        rintro _ h5 le5 ⟨y, rfl, ry⟩
        rw [neg_ff] at ry
        have zn : sz (ff (-val n e)) ≤ 10 := by rw [← neg_ff, sz_neg]; exact zx.1
        have hn3 := Number_ff (M := M) (-val n e) (rg_of (by omega) (by omega)) (ff (-val n e)) (canon_ff _) y h5 ry (by omega)
        rw [nu_neg, ex_neg, n1.1, n1.2] at hn3
        refine Gs.callv0 hn3 ?_
        (repeat (first | refine G.step ?_ | (refine Gs.alloc ?_; intro _) | refine Gs.store ?_ | refine Gs.dr ?_ | refine G.qkp ?_ | refine Gs.qkb ?_ | refine G.gdtt ?_ | refine G.gdby (by first | (simp; done) | omega) ?_))
        refine Gs.callv0 (Q.rneg_ok n e h5 (by have := sx.bd; omega) (by have := sx.bd; omega)) ?_
        (repeat (first | refine G.qkp ?_ | refine Gs.withb ?_ | refine G.gdby (by first | (simp; done) | omega) ?_))
        exact Gs.ret rfl
      · intro k25 hk25
        (repeat (first | refine Gs.dr ?_ | refine G.qkp ?_ | refine Gs.qkb ?_ | refine G.gdff ?_))
        refine Gs.callv0 (leq_ok (ff (val n e)) (ff (val m f)) xa xb2 h3 r1 r2 (by omega)) ?_
        (repeat (refine Gs.withb ?_))
        refine Gs.callv0 (Q.rcompare_ok n e m f h3 va vb) ?_
        rw [leq_ff, ← hcmp]
        (repeat (first | refine G.qkp ?_ | refine Gs.qkb ?_ | refine G.gdbn (by first | (simp; done) | omega) ?_))
        refine Gs.call0 (canon_okC (ff (val n e)) xa h3 r1 (by omega)) ?_
        rintro _ h4 le4 ⟨y, rfl, ry⟩
        rw [canon_ff] at ry
        (repeat (refine Gs.withb ?_))
        refine Gs.callv0 (same_ok _ _ y xa h4 ry (r1.mono le4) (by omega)) ?_
        rw [decide_eq_true rfl]
        (repeat (refine G.qkp ?_))
        exact Gs.weak h03 le4 (hk25 _ rfl)
    · intro k17 hk17
      (repeat (first | refine G.step ?_ | refine G.gdff ?_))
      refine Gs.callv0 (rsize_ok 10 _ zx.1 (by decide) h3 xa r1) ?_
      (repeat (first | refine G.step ?_ | refine G.gdyf (by first | (simp; done) | omega) ?_))
      refine Gs.callv0 (rsize_ok 10 _ zy.1 (by decide) h3 xb2 r2) ?_
      (repeat (refine G.step ?_))
      refine hk17 _ ?_
      rw [decide_eq_false]
      omega
end Go.Proofs.Ytgdochemlbjnlaa
end

