/-
  Values: the laws ValueOrder, ValueSums, ValueWinners, walked.
-/
import Derived.Test.YtgdochemlbjnlaaVe
set_option linter.unusedVariables false
set_option linter.unusedSimpArgs false
set_option linter.unusedSectionVars false
set_option maxHeartbeats 2000000
set_option maxRecDepth 100000
namespace Go.Proofs.Ytgdochemlbjnlaa
open Go Go.Sk Go.Va Go.RowKit
variable {M : Go.Sk.Mode}
attribute [local irreducible] Go.Sk.vCall Go.Sk.Ct
theorem leq_t {a b : Fm} (h : Le a b) : leq a b = true := h
theorem leq_f {a b : Fm} (h : ¬ Le a b) : leq a b = false := by simpa [Le] using h
theorem order_ok (q0 q1 q2 : SlH) (l0 l1 l2 : List UInt8) (h : Hp) (r0 : RdE h (slv q0) eByte 1 l0) (r1 : RdE h (slv q1) eByte 1 l1) (r2 : RdE h (slv q2) eByte 1 l2)
    (n0 : l0.length ≤ 9223372036854775807) (n1 : l1.length ≤ 9223372036854775807) (n2 : l2.length ≤ 9223372036854775807) : Ct Try.prog 3 [.agg #[slv q0, slv q1, slv q2]] h (fun _ v => v = .bool true) := by
  refine ct3 ?_
  intro w0
  unfold s3
  (repeat (refine Gs.box ?_; intro _))
  rename_i lb
  refine Gs.callv0 (sanity_ok h) ?_
  refine Gs.dr ?_
  refine made3 (lb := lb) (c := 9) rfl (by decide) r0 r1 r2 n0 n1 n2 ?_
  intro h1 t ba bb bc xa xb xc a b c le1 e1 e2 e3 ra rb rc sa sb sc
  rw [e1, e2, e3]
  clear e1 e2 e3
  refine G.jnP (fun j => j = .bool false) ?_ ?_
  · rintro _ rfl
    refine G.jk ?_; intro _
    (repeat (first | refine G.step ?_ | refine G.iff ?_))
    refine Gs.callv0 (leq_ok c b _ _ h1 rc rb (by omega)) ?_
    cases hcb : leq c b
    · (repeat (first | refine G.step ?_ | refine G.gdtf ?_ | refine G.gdft ?_))
      exact Gs.ret rfl
    · (repeat (first | refine G.step ?_ | refine G.gdtt ?_))
      refine Gs.callv0 (leq_ok b a _ _ h1 rb ra (by omega)) ?_
      cases hba : leq b a
      · (repeat (first | refine G.step ?_ | refine G.gdtf ?_))
        exact Gs.ret rfl
      · (repeat (first | refine G.step ?_ | refine G.gdff ?_))
        refine Gs.callv0 (leq_ok c a _ _ h1 rc ra (by omega)) ?_
        rw [leq_t (Le.trans hcb hba)]
        (repeat (refine G.gdtt ?_))
        exact Gs.ret rfl
  · intro k hk
    (repeat (refine G.step ?_))
    refine Gs.callv0 (leq_ok a a _ _ h1 ra ra (by omega)) ?_
    rw [leq_t (le_refl a)]
    (repeat (first | refine G.step ?_ | refine G.gdff ?_))
    refine Gs.callv0 (leq_ok a b _ _ h1 ra rb (by omega)) ?_
    cases hab : leq a b
    · (repeat (refine G.gdft ?_))
      exact hk _ rfl
    · (repeat (first | refine G.step ?_ | refine G.gdtt ?_))
      refine Gs.callv0 (leq_ok b c _ _ h1 rb rc (by omega)) ?_
      cases hbc : leq b c
      · (repeat (refine G.gdft ?_))
        exact hk _ rfl
      · (repeat (first | refine G.step ?_ | refine G.gdtt ?_))
        refine Gs.callv0 (leq_ok a c _ _ h1 ra rc (by omega)) ?_
        rw [leq_t (Le.trans hab hbc)]
        (repeat (refine G.step ?_))
        exact hk _ rfl
/-- The size of a sum of two, of three. -/
theorem sz2 {a b : Fm} {m n : Nat} (ha : sz a ≤ m) (hb : sz b ≤ n) : sz (add a b) ≤ m * n * 2 ^ (m + n - 3) ∧ dp (add a b) ≤ m + n - 2 := by
  have da := dp_sz a
  have db := dp_sz b
  have := dp_add a b
  exact ⟨sz_add_le ha hb (by omega), by omega⟩
theorem sums_ok (q0 q1 q2 : SlH) (l0 l1 l2 : List UInt8) (h : Hp) (r0 : RdE h (slv q0) eByte 1 l0) (r1 : RdE h (slv q1) eByte 1 l1) (r2 : RdE h (slv q2) eByte 1 l2)
    (n0 : l0.length ≤ 9223372036854775807) (n1 : l1.length ≤ 9223372036854775807) (n2 : l2.length ≤ 9223372036854775807) : Ct Try.prog 4 [.agg #[slv q0, slv q1, slv q2]] h (fun _ v => v = .bool true) := by
  refine ct4 ?_
  intro w0
  unfold s4
  (repeat (refine Gs.box ?_; intro _))
  rename_i lb
  refine Gs.callv0 (sanity_ok h) ?_
  refine Gs.dr ?_
  refine made2 (lb := lb) (c := 5) rfl (by decide) r0 r1 n0 n1 (by decide) (by decide) ?_
  intro h1 t ba bb xa xb a b le1 e1 e2 ra rb sa sb
  rw [e1, e2]
  clear e1 e2
  refine Gs.dr ?_
  refine made3 (lb := lb) (c := 3) rfl (by decide) (r0.mono le1) (r1.mono le1) (r2.mono le1) n0 n1 n2 ?_
  intro h2 t2 bx b_y bz xx xy xz x y z le2 e1 e2 e3 rx ry rz sx sy sz'
  rw [e1, e2, e3]
  clear e1 e2 e3
  refine Gs.dr ?_
  refine made3 (lb := lb) (c := 4) rfl (by decide) (r0.mono (le1.trans le2)) (r1.mono (le1.trans le2)) (r2.mono (le1.trans le2)) n0 n1 n2 ?_
  intro h3 t3 bp bq br xp xq xr p q r le3 e1 e2 e3 rp rq rr sp sq sr
  rw [e1, e2, e3]
  clear e1 e2 e3
  have h03 : Hle h h3 := le1.trans (le2.trans le3)
  replace ra := ra.mono (le2.trans le3)
  replace rb := rb.mono (le2.trans le3)
  replace rx := rx.mono le3
  replace ry := ry.mono le3
  replace rz := rz.mono le3
  have pw : ∀ a, 0 < 2 ^ a := fun a => Nat.pow_pos (by decide)
  refine G.jnP (fun j => j = .bool false) ?_ ?_
  · rintro _ rfl
    refine G.jk ?_; intro _
    have e1 := sz2 sx sy
    have e2 := sz2 sy sz'
    have dx := dp_sz x
    have dz := dp_sz z
    have e3 : sz (add (add x y) z) ≤ 72 * 3 * 2 ^ 5 := sz_add_le (Nat.le_trans e1.1 (by decide)) sz' (by omega)
    have e4 : sz (add x (add y z)) ≤ 3 * 72 * 2 ^ 5 := sz_add_le sx (Nat.le_trans e2.1 (by decide)) (by omega)
    have e1' : sz (add x y) ≤ 72 := Nat.le_trans e1.1 (by decide)
    have e2' : sz (add y z) ≤ 72 := Nat.le_trans e2.1 (by decide)
    (repeat (first | refine Gs.dr ?_ | refine Gs.qkb ?_ | refine G.iff ?_))
    refine Gs.call0 (add_ok (sz x + sz y) x y (Nat.le_refl _) (by omega) h3 xx xy rx ry) ?_
    rintro _ h4 le4 ⟨v1, rfl, k1⟩
    (repeat (refine Gs.withb ?_))
    refine Gs.call0 (add_ok (sz (add x y) + sz z) (add x y) z (Nat.le_refl _) (by omega) h4 v1 xz k1 (rz.mono le4)) ?_
    rintro _ h5 le5 ⟨v2, rfl, k2⟩
    (repeat (refine Gs.withb ?_))
    refine Gs.call0 (add_ok (sz y + sz z) y z (Nat.le_refl _) (by omega) h5 xy xz (ry.mono (le4.trans le5)) (rz.mono (le4.trans le5))) ?_
    rintro _ h6 le6 ⟨v3, rfl, k3⟩
    (repeat (refine Gs.withb ?_))
    refine Gs.call0 (add_ok (sz x + sz (add y z)) x (add y z) (Nat.le_refl _) (by omega) h6 xx v3 (rx.mono (le4.trans (le5.trans le6))) k3) ?_
    rintro _ h7 le7 ⟨v4, rfl, k4⟩
    skip
    refine Gs.callv0 (equal_ok _ _ _ _ h7 (k2.mono (le6.trans le7)) k4 (by omega)) ?_
    rw [leq_t (add_assoc x y z).1, leq_t (add_assoc x y z).2]
    (repeat (first | refine Gs.dr ?_ | refine G.qkp ?_ | refine Gs.qkb ?_ | refine G.iff ?_))
    have h37 := le4.trans (le5.trans (le6.trans le7))
    replace rp := rp.mono h37
    replace rq := rq.mono h37
    replace rr := rr.mono h37
    have e5 : sz (add p r) ≤ 512 := Nat.le_trans (sz2 sp sr).1 (by decide)
    have e6 : sz (add q r) ≤ 512 := Nat.le_trans (sz2 sq sr).1 (by decide)
    refine Gs.callv0 (leq_ok p q _ _ h7 rp rq (by omega)) ?_
    (repeat (refine Gs.withb ?_))
    refine Gs.call0 (add_ok (sz p + sz r) p r (Nat.le_refl _) (by omega) h7 xp xr rp rr) ?_
    rintro _ h8 le8 ⟨v5, rfl, k5⟩
    (repeat (refine Gs.withb ?_))
    refine Gs.call0 (add_ok (sz q + sz r) q r (Nat.le_refl _) (by omega) h8 xq xr (rq.mono le8) (rr.mono le8)) ?_
    rintro _ h9 le9 ⟨v6, rfl, k6⟩
    refine Gs.callv0 (leq_ok (add p r) (add q r) _ _ h9 (k5.mono le9) k6 (by omega)) ?_
    rw [show leq (add p r) (add q r) = leq p q by rw [Bool.eq_iff_iff]; exact add_le]
    (repeat (first | refine G.qkp ?_ | refine G.gdby (by first | (simp; done) | omega) ?_))
    exact Gs.ret rfl
  · intro k6 hk6
    have e1 : sz (add a b) ≤ 3200 := Nat.le_trans (sz2 sa sb).1 (by decide)
    have e2 : sz (add b a) ≤ 3200 := Nat.le_trans (sz2 sb sa).1 (by decide)
    have e3 : sz (add a (neg a)) ≤ 3200 := Nat.le_trans (sz2 sa (show sz (neg a) ≤ 5 by rw [sz_neg]; exact sa)).1 (by decide)
    (repeat (first | refine Gs.dr ?_ | refine Gs.qkb ?_))
    refine Gs.call0 (add_ok (sz a + sz b) a b (Nat.le_refl _) (by omega) h3 xa xb ra rb) ?_
    rintro _ h4 le4 ⟨v1, rfl, k1⟩
    (repeat (refine Gs.withb ?_))
    refine Gs.call0 (add_ok (sz b + sz a) b a (Nat.le_refl _) (by omega) h4 xb xa (rb.mono le4) (ra.mono le4)) ?_
    rintro _ h5 le5 ⟨v2, rfl, k2⟩
    refine Gs.callv0 (equal_ok _ _ _ _ h5 (k1.mono le5) k2 (by omega)) ?_
    rw [leq_t (add_comm a b).1, leq_t (add_comm a b).2]
    (repeat (first | refine G.qkp ?_ | refine Gs.qkb ?_ | refine G.gdff ?_))
    have h35 := le4.trans le5
    refine Gs.call0 (add_ok (sz a + 1) a Va.zero (Nat.le_refl _) (by omega) h5 xa ((none, 0, 0), (none, 0, 0)) (ra.mono h35) (FmR.zero h5)) ?_
    rintro _ h6 le6 ⟨v3, rfl, k3⟩
    rw [add_zero'] at k3
    (repeat (refine Gs.withb ?_))
    refine Gs.callv0 (equal_ok a a _ _ h6 k3 (ra.mono (h35.trans le6)) (by omega)) ?_
    rw [leq_t (le_refl a)]
    (repeat (first | refine G.qkp ?_ | refine Gs.qkb ?_ | refine G.gdff ?_))
    have h36 := h35.trans le6
    refine Gs.call0 (neg_ok (sz a) a (Nat.le_refl _) (by omega) h6 xa (ra.mono h36)) ?_
    rintro _ h7 le7 ⟨v4, rfl, k4⟩
    (repeat (first | refine G.withT ?_ | refine Gs.withb ?_))
    refine Gs.call0 (add_ok (sz a + sz (neg a)) a (neg a) (Nat.le_refl _) (by rw [sz_neg]; omega) h7 xa v4 (ra.mono (h36.trans le7)) k4) ?_
    rintro _ h8 le8 ⟨v5, rfl, k5⟩
    (repeat (refine G.withT ?_))
    refine Gs.callv0 (equal_ok (add a (neg a)) Va.zero _ ((none, 0, 0), (none, 0, 0)) h8 k5 (FmR.zero h8) (by have : sz Va.zero = 1 := rfl; omega)) ?_
    rw [leq_t (add_neg a).1, leq_t (add_neg a).2]
    (repeat (refine G.qkp ?_))
    exact Gs.weak h03 (h36.trans (le7.trans le8)) (hk6 _ rfl)
end Go.Proofs.Ytgdochemlbjnlaa
