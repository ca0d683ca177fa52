/-
  Lemmas for the proof of the statement of this claim: a part of the road, no statement of its own. Conditions: those that each lemma names.
-/
import Derived.Test.YtnepdmnkhjpnhaaLj
set_option linter.unusedVariables false
set_option linter.unusedSimpArgs false
set_option linter.unusedSectionVars false
set_option maxHeartbeats 8000000
set_option maxRecDepth 10000
namespace Go.Proofs.Ytnepdmnkhjpnhaa
open Go Go.Sk Go.Lp Go.RowKit
variable {M : Go.Sk.Mode}
/-! ### Bounds as one value -/
theorem ex_lo (p : Int → Prop) : ∃ b, loB p b := by
  have key : ∀ n : Nat, n ≤ 17 → (∃ b, 8 - (n : Int) < b ∧ b ≤ 8 ∧ p b ∧ ∀ k, b < k → k ≤ 8 → ¬ p k) ∨ ∀ k, 8 - (n : Int) < k → k ≤ 8 → ¬ p k := by
    intro n
    induction n with
    | zero => exact fun _ => .inr fun k h1 h2 => by omega
    | succ n ih =>
      intro hn
      rcases ih (by omega) with ⟨b, h1, h2, h3, h4⟩ | hno
      · exact .inl ⟨b, by omega, h2, h3, h4⟩
      · by_cases hp : p (8 - n)
        · exact .inl ⟨8 - n, by omega, by omega, hp, fun k h1 h2 => hno k h1 h2⟩
        · refine .inr fun k h1 h2 => ?_
          by_cases e : k = 8 - n
          · rw [e]; exact hp
          · exact hno k (by omega) h2
  rcases key 17 (Nat.le_refl _) with ⟨b, h1, h2, h3, h4⟩ | hno
  · exact ⟨b, by omega, h2, fun _ => h3, h4⟩
  · exact ⟨-9, by omega, by omega, fun h => by omega, fun k h1 h2 => hno k (by omega) h2⟩
theorem ex_hi (p : Int → Prop) : ∃ b, hiB p b := by
  obtain ⟨b, h1, h2, h3, h4⟩ := ex_lo fun k => p (-k)
  exact ⟨-b, by omega, by omega, fun h => h3 (by omega), fun k h5 h6 => by have := h4 (-k) (by omega) (by omega); simpa using this⟩
theorem boundsV_ok (g : Gr) (x : GrH) (node : Int) (b : Int × Int × Int) (hb : BdS g node b) (h : Hp) (hx : GrR h x g) (hs : GS g) (hnode : -1152921504606846976 ≤ node ∧ node ≤ 1152921504606846976) : Ct Try.prog 20 [vG x, I node] h (fun _ v => v = .agg #[I b.1, I b.2.1, I b.2.2]) :=
  (boundsL_ok g x node h hx hs hnode).mono fun h' v _ ⟨c, hc, e⟩ => by rw [e, hc.uniq hb]
def spotV (g : Gr) (a b c : UInt8) : Sp := ((a.toNat : Int) % g.L.length, (b.toNat : Int) % 9 - 4, (c.toNat : Int) % 2)
theorem spotV_S4 {g : Gr} (hg : GV g) (a b c : UInt8) : S4 g (spotV g a b c) := by
  have hl0 := hg.l0
  have e1 := Int.emod_nonneg (a.toNat : Int) (show (g.L.length : Int) ≠ 0 by omega)
  have e2 := Int.emod_lt_of_pos (a.toNat : Int) (show (0 : Int) < g.L.length by omega)
  unfold S4 spotV
  dsimp only
  omega
theorem spotV_ok (g : Gr) (x : GrH) (a b c : UInt8) (h : Hp) (hx : GrR h x g) (hg : GV g) : Ct Try.prog 24 [vG x, .agg #[.int .u8 a.toNat, .int .u8 b.toNat, .int .u8 c.toNat]] h (fun _ v => v = vSp (spotV g a b c)) := by
  refine ct24 ?_
  intro w0
  unfold s24
  have hl0 := hg.l0
  have hl1 := hg.l1
  have ha := u8lt a
  have hb := u8lt b
  have hc := u8lt c
  refine Gs.box ?_; intro xb
  refine Gs.box ?_; intro wb
  refine Gs.alloc ?_; intro rb
  refine Gs.dr ?_
  refine G.qkp ?_
  refine Gs.qkb ?_
  refine G.qconv (by omega) ?_
  refine G.qkp ?_
  refine Gs.qkb ?_
  refine Gs.qlenF hx.l (by omega) ?_
  refine G.qremN (by omega) (by omega) ?_
  refine G.qkp ?_
  refine Gs.qkb ?_
  refine G.qconv (by omega) ?_
  refine G.qremN (by omega) (by omega) ?_
  refine G.qsub (by omega) ?_
  refine G.qkp ?_
  refine Gs.qkb ?_
  refine G.qconv (by omega) ?_
  refine G.qremN (by omega) (by omega) ?_
  (repeat (first | refine G.add (by omega) ?_ | refine G.sub (by omega) ?_ | refine G.mul (by omega) ?_ | refine G.neg (by omega) ?_ | refine G.quo (by omega) (by omega) ?_ | refine G.rem (by omega) ?_ | refine G.shr (by omega) ?_ | refine G.conv (by omega) ?_ | refine G.step ?_ | refine G.buildA (by rfl) ?_ | (refine Gs.box ?_; intro _) | (refine Gs.alloc ?_; intro _) | refine Gs.store ?_ | refine G.retc ?_ | refine Gs.dr ?_ | refine G.qadd (by omega) ?_ | refine G.qsub (by omega) ?_ | refine G.qmul (by omega) ?_ | refine G.qneg (by omega) ?_ | refine G.qkp ?_ | refine Gs.qkb ?_ | refine G.withT ?_ | refine Gs.withb ?_ | refine G.ift ?_ | refine G.iff ?_ | refine G.gdtt ?_ | refine G.gdff ?_ | refine G.gdtf ?_ | refine G.gdft ?_ | (refine G.jk ?_; intro _)))
  exact Gs.ret rfl
theorem BdS.ok {g : Gr} {node : Int} (hg : gvB g = true) (hn : 0 ≤ node ∧ node < g.L.length) : ∃ lo hi, BdS g node (lo, hi, 0) ∧ loB (LoP g node) lo ∧ hiB (HiP g node) hi := by
  obtain ⟨lo, h1⟩ := ex_lo (LoP g node)
  obtain ⟨hi, h2⟩ := ex_hi (HiP g node)
  exact ⟨lo, hi, .inr (.inr ⟨hg, hn, h1, h2, rfl⟩), h1, h2⟩
end Go.Proofs.Ytnepdmnkhjpnhaa
