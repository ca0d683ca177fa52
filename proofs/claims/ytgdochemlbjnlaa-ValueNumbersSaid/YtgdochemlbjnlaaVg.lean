/-
  Values: the laws ValueWinners, ValueTexts, ValueCanon, walked.
-/
import Derived.Test.YtgdochemlbjnlaaVf
set_option linter.unusedVariables false
set_option linter.unusedSimpArgs false
set_option linter.unusedSectionVars false
set_option maxHeartbeats 2000000
set_option maxRecDepth 100000
namespace Go.Proofs.Ytgdochemlbjnlaa
open Go Go.Sk Go.Va Go.RowKit
variable {M : Go.Sk.Mode}
attribute [local irreducible] Go.Sk.vCall Go.Sk.Ct
theorem winners_ok (q0 : SlH) (l0 : List UInt8) (h : Hp) (r0 : RdE h (slv q0) eByte 1 l0) (n0 : l0.length ≤ 9223372036854775807) : Ct Try.prog 7 [slv q0] h (fun _ v => v = .bool true) := by
  refine ct7 ?_
  intro w0
  unfold s7
  refine Gs.callv0 (sanity_ok h) ?_
  refine Gs.call0 (rmade_ok q0 l0 14 h r0 n0 (by decide)) ?_
  rintro _ h1 le1 ⟨x, f, rfl, rf, sf⟩
  (repeat (first | (refine Gs.alloc ?_; intro _) | refine Gs.store ?_ | refine Gs.dr ?_ | refine Gs.qkb ?_))
  refine Gs.callv0 (winner_ok f x 0 h1 rf (by omega)) ?_
  (repeat (refine Gs.withb ?_))
  refine Gs.callv0 (winner_ok f x 1 h1 rf (by omega)) ?_
  rw [if_pos rfl, if_neg (by decide)]
  refine G.jnP (fun j => j = .bool false) ?_ ?_
  · rintro _ rfl
    refine G.jk ?_; intro _
    (repeat (first | refine Gs.dr ?_ | refine G.qkp ?_ | refine Gs.qkb ?_ | refine G.iff ?_))
    refine Gs.callv0 (leq_ok Va.zero f ((none, 0, 0), (none, 0, 0)) x h1 (FmR.zero h1) rf (by have : sz Va.zero = 1 := rfl; omega)) ?_
    (repeat (first | refine G.withT ?_ | refine Gs.withb ?_))
    refine Gs.callv0 (leq_ok f Va.zero x ((none, 0, 0), (none, 0, 0)) h1 rf (FmR.zero h1) (by have : sz Va.zero = 1 := rfl; omega)) ?_
    cases leq f Va.zero <;> cases leq Va.zero f <;> ((repeat (first | refine G.step ?_ | refine G.gdtt ?_)); exact Gs.ret rfl)
  · intro k hk
    (repeat (refine G.step ?_))
    refine Gs.callv0 (wins_ok 14 f sf (by decide) h1 x 0 (.inl rfl) rf) ?_
    rw [show winF f 0 = !leq f Va.zero from rfl]
    have h1' : winF f 1 = !leq Va.zero f := rfl
    cases leq f Va.zero
    · (repeat (first | refine G.step ?_ | refine G.gdff ?_))
      refine Gs.callv0 (wins_ok 14 f sf (by decide) h1 x 1 (.inr rfl) rf) ?_
      rw [h1']
      cases leq Va.zero f <;> ((repeat (refine G.step ?_)); exact hk _ rfl)
    · (repeat (first | refine G.step ?_ | refine G.gdff ?_))
      refine Gs.callv0 (wins_ok 14 f sf (by decide) h1 x 1 (.inr rfl) rf) ?_
      rw [h1']
      cases leq Va.zero f <;> ((repeat (refine G.step ?_)); exact hk _ rfl)
theorem texts_okL (q0 q1 : SlH) (l0 l1 : List UInt8) (h : Hp) (r0 : RdE h (slv q0) eByte 1 l0) (r1 : RdE h (slv q1) eByte 1 l1) (n0 : l0.length ≤ 9223372036854775807) (n1 : l1.length ≤ 9223372036854775807) : Ct Try.prog 8 [slv q0, slv q1] h (fun _ v => v = .bool true) := by
  refine ct8 ?_
  intro w0
  unfold s8
  refine Gs.callv0 (sanity_ok h) ?_
  refine Gs.call0 (rmade_ok q0 l0 10 h r0 n0 (by decide)) ?_
  rintro _ h1 le1 ⟨xa, a, rfl, ra, sa⟩
  refine Gs.call0 (rmade_ok q1 l1 10 h1 (r1.mono le1) n1 (by decide)) ?_
  rintro _ h2 le2 ⟨xb, b, rfl, rb, sb⟩
  replace ra := ra.mono le2
  (repeat (first | (refine Gs.alloc ?_; intro _) | refine Gs.store ?_ | refine Gs.dr ?_))
  rename_i ba bb
  refine both (FN := 15) (G' := neg) (a := ba) (b := bb) ra rb (fun f hf h x hx => neg_ok 10 f (by simp only [List.mem_cons, List.not_mem_nil, or_false] at hf; rcases hf with rfl | rfl <;> assumption) (by decide) h x hx) (by decide) (by decide) ?_
  intro h3 t bn bo xn xo le3 e1 e2 rn ro
  rw [e1, e2]
  clear e1 e2
  replace ra := ra.mono le3
  replace rb := rb.mono le3
  have sn : sz (neg a) = sz a := sz_neg a
  have so : sz (neg b) = sz b := sz_neg b
  refine G.jnP (fun j => j = .bool false) ?_ ?_
  · rintro _ rfl
    refine G.jk ?_; intro _
    (repeat (first | refine Gs.dr ?_ | refine Gs.qkb ?_ | refine G.iff ?_))
    refine Gs.callv0 (print_ok a xa h3 ra (by omega)) ?_
    (repeat (refine Gs.withb ?_))
    refine Gs.callv0 (print_ok b xb h3 rb (by omega)) ?_
    (repeat (first | refine G.qkp ?_ | refine Gs.withb ?_))
    refine Gs.callv0 (alike_ok 10 a b sa (by decide) (by omega) h3 xa xb ra rb) ?_
    rw [show decide (pr a = pr b) = decide (a = b) by rw [decide_eq_decide]; exact pr_inj_iff]
    (repeat (first | refine G.qkp ?_ | refine G.withT ?_))
    refine G.gdy rfl ?_
    (repeat (refine Gs.qkb ?_))
    refine Gs.callv0 (leq_ok a b xa xb h3 ra rb (by omega)) ?_
    (repeat (refine Gs.withb ?_))
    refine Gs.callv0 (leq_ok (neg b) (neg a) xo xn h3 ro rn (by omega)) ?_
    rw [leq_neg]
    (repeat (refine G.qkp ?_))
    refine G.gdy rfl ?_
    exact Gs.ret rfl
  · intro k hk
    (repeat (first | refine Gs.dr ?_ | refine Gs.qkb ?_))
    refine Gs.callv0 (rsize_ok 10 (neg a) (by omega) (by decide) h3 xn rn) ?_
    (repeat (refine Gs.withb ?_))
    refine Gs.callv0 (rsize_ok 10 a (by omega) (by decide) h3 xa ra) ?_
    rw [sn]
    (repeat (refine G.qkp ?_))
    refine G.gdyf (by simp) ?_
    (repeat (refine Gs.qkb ?_))
    refine Gs.callv0 (rsize_ok 10 (neg b) (by omega) (by decide) h3 xo ro) ?_
    (repeat (refine Gs.withb ?_))
    refine Gs.callv0 (rsize_ok 10 b (by omega) (by decide) h3 xb rb) ?_
    rw [so]
    (repeat (refine G.qkp ?_))
    refine G.gdyf (by simp) ?_
    (repeat (refine Gs.qkb ?_))
    refine Gs.call0 (neg_ok 10 (neg a) (by omega) (by decide) h3 xn rn) ?_
    rintro _ h4 le4 ⟨y, rfl, ry⟩
    rw [neg_neg] at ry
    (repeat (refine Gs.withb ?_))
    refine Gs.callv0 (alike_ok 10 a a sa (by decide) (by omega) h4 y xa ry (ra.mono le4)) ?_
    rw [decide_eq_true rfl]
    (repeat (first | refine G.qkp ?_ | refine Gs.qkb ?_ | refine G.gdff ?_))
    refine Gs.callv0 (size_ok 10 (neg a) (by omega) (by decide) h4 xn (rn.mono le4)) ?_
    (repeat (refine Gs.withb ?_))
    refine Gs.callv0 (size_ok 10 a (by omega) (by decide) h4 xa (ra.mono le4)) ?_
    rw [sn]
    (repeat (refine G.qkp ?_))
    exact Gs.weak (le1.trans (le2.trans le3)) le4 (hk _ (by simp))
end Go.Proofs.Ytgdochemlbjnlaa
