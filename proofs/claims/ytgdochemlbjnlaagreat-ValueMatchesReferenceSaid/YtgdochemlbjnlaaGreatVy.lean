/-
  Values: the law ValueMatchesReference, walked.
-/
import Derived.Test.YtgdochemlbjnlaaGreatVz
import Derived.Test.YtgdochemlbjnlaaGreatVt
set_option linter.unusedVariables false
set_option linter.unusedSimpArgs false
set_option linter.unusedSectionVars false
set_option maxHeartbeats 2000000
set_option maxRecDepth 100000
namespace Go.Proofs.YtgdochemlbjnlaaGreat
open Go Go.Sk Go.Va Go.RowKit
open Go.Dy (strip Valid val btw validB)
variable {M : Go.Sk.Mode}
attribute [local irreducible] Go.Sk.vCall Go.Sk.Ct
theorem leq_tZ {a b : Fm} (h : Le a b) : leq a b = true := h
theorem tmod_bdZ (a b : Int) (hb : 0 < b) : -b < a.tmod b ∧ a.tmod b < b := ⟨Int.lt_tmod_of_pos a hb, Int.tmod_lt_of_pos a hb⟩
instance ixW {S : WP} {b : Nat} : Yd Tryz.prog S (V (Instr.indexAt 24 (ptr b 0) (.int .i64 0))) (ptr b 0) := Yd.ixA (sz := 1) (e := 23) (n := 2) ⟨by decide, by decide⟩ rfl
instance ixW1 {S : WP} {b : Nat} : Yd Tryz.prog S (V (Instr.indexAt 24 (ptr b 0) (.int .i64 1))) (ptr b 1) := Yd.ixA (sz := 1) (e := 23) (n := 2) ⟨by decide, by decide⟩ rfl
/-- Both answer the same. -/
theorem of_both (n e : Int) (hn : -1000 ≤ n ∧ n ≤ 1000) : ∃ (g : Fm) (c : Int), sz g ≤ 2000 ∧ (∀ h, Ct (M := M) Tryz.prog 21 [Fr2 n e] h (fun h' v => ∃ y, v = .tuple #[vF y, I c] ∧ FmR h' y g)) ∧ (∀ h, Ct (M := M) Tryz.prog 22 [Fr2 n e] h (fun h' v => ∃ y, v = .tuple #[vF y, I c] ∧ FmR h' y g)) := by
  cases hv : validB n e with
  | false =>
    exact ⟨Va.zero, 190, by decide, fun h => (of_bad (M := M) n e h hv).mono fun h' v _ hp => ⟨_, hp, FmR.zero h'⟩, fun h => (rof_bad (M := M) n e h hv).mono fun h' v _ hp => ⟨_, hp, FmR.zero h'⟩⟩
  | true =>
    have he0 : 0 ≤ e := by
      unfold Go.Dy.validB at hv
      exact (of_decide_eq_true hv).1
    obtain ⟨k, rfl⟩ : ∃ k : Nat, e = k := ⟨e.toNat, by omega⟩
    have hva := (Go.Dy.validB_iff n k).1 hv
    have vd : Vd n k := ⟨hva.1, hva.2.2.2, by omega, by omega⟩
    by_cases hs : sz (ff (val n k)) ≤ 2000
    · refine ⟨ff (val n k), 0, hs, fun h => (of_ok (M := M) n k h vd).mono fun h' v _ hp => ?_, fun h => (rof_ok (M := M) n k h vd).mono fun h' v _ hp => ?_⟩
      · exact hp.yes hs
      · exact hp.yes hs
    · refine ⟨Va.zero, 2, by decide, fun h => (of_ok (M := M) n k h vd).mono fun h' v _ hp => ?_, fun h => (rof_ok (M := M) n k h vd).mono fun h' v _ hp => ?_⟩
      · exact ⟨_, hp.big (by omega), FmR.zero h'⟩
      · exact ⟨_, hp.big (by omega), FmR.zero h'⟩
theorem sz_c {a b : Fm} (ha : sz a ≤ 5) (hb : sz b ≤ 5) : sz (add a b) ≤ 3200 := by
  have da := dp_sz a
  have db := dp_sz b
  exact Nat.le_trans (sz_add_le (D := 7) ha hb (by omega)) (by decide)
theorem matches_ok (q0 q1 : SlH) (l0 l1 : List UInt8) (w0_ w1_ : Int) (h : Hp) (r0 : RdE h (slv q0) eByte 1 l0) (r1 : RdE h (slv q1) eByte 1 l1) (n0 : l0.length ≤ 9223372036854775807) (n1 : l1.length ≤ 9223372036854775807) (hw0 : -128 ≤ w0_ ∧ w0_ ≤ 127) (hw1 : -128 ≤ w1_ ∧ w1_ ≤ 127) :
    Ct Tryz.prog 3 [slv q0, slv q1, .agg #[.int .i8 w0_, .int .i8 w1_]] h (fun _ v => v = .bool true) := by
  refine ct3 ?_
  intro w0
  unfold s3
  (repeat (refine Gs.box ?_; intro _))
  rename_i wb
  refine Gs.callv0 (sanity_ok h) ?_
  refine Gs.call0 (rmade_ok q0 l0 9 h r0 n0 (by decide)) ?_
  rintro _ h1 le1 ⟨xa, a, rfl, ra, sa⟩
  refine Gs.call0 (rmade_ok q1 l1 9 h1 (r1.mono le1) n1 (by decide)) ?_
  rintro _ h2 le2 ⟨xb, b, rfl, rb, sb⟩
  have le12 := le1.trans le2
  (repeat (first | (refine Gs.alloc ?_; intro _) | refine Gs.store ?_))
  refine Gs.call0 (rmade_ok q0 l0 5 h2 (r0.mono le12) n0 (by decide)) ?_
  rintro _ h3 le3 ⟨xc, c, rfl, rc, sc⟩
  refine Gs.call0 (rmade_ok q1 l1 5 h3 (r1.mono (le12.trans le3)) n1 (by decide)) ?_
  rintro _ h4 le4 ⟨xd, d, rfl, rd, sd⟩
  have h04 : Hle h h4 := le12.trans (le3.trans le4)
  replace ra := ra.mono (le2.trans (le3.trans le4))
  replace rb := rb.mono (le3.trans le4)
  replace rc := rc.mono le4
  have ca := (canon_ok a).2.2
  have hnv : NV (canon a) := nv_small 9 (Nat.le_refl _) _ (by omega)
  have scd := sz_c sc sd
  (repeat (first | (refine Gs.alloc ?_; intro _) | refine Gs.store ?_))
  refine G.jnP (fun j => j = .bool false) ?_ ?_
  · rintro _ rfl
    refine G.jk ?_; intro _
    have t1 := tmod_bdZ w0_ 41 (by decide)
    have t2 := tmod_bdZ w1_ 6 (by decide)
    obtain ⟨g, code, sg, k1, k2⟩ := of_both (M := M) (w0_.tmod 41) (w1_.tmod 6) (by omega)
    have hnum : (if (numF (canon a)).2.2 = true then numF (canon a) else (0, 0, false)) = numF (canon a) := by
      cases hq : (numF (canon a)).2.2 with
      | true => rfl
      | false => rw [numF_false _ hq]; rfl
    have hN := Number_ok (M := M) a xa h4 ra (by omega) hnv
    rw [hnum] at hN
    have hR := rNumber_ok (M := M) a xa h4 ra (by omega) hnv
    generalize numF (canon a) = r at *
    (repeat (first | refine G.step ?_ | refine G.iff ?_))
    refine Gs.callv0 hN ?_
    (repeat (first | refine G.step ?_ | (refine Gs.alloc ?_; intro _) | refine Gs.store ?_))
    refine Gs.callv0 hR ?_
    (repeat (first | refine G.rem (by omega) ?_ | refine G.conv (by omega) ?_ | refine G.step ?_ | (refine Gs.alloc ?_; intro _) | refine Gs.store ?_))
    generalize w0_.tmod 41 = nn at *
    generalize w1_.tmod 6 = ee at *
    refine Gs.call0 (k1 h4) ?_
    rintro _ h5 le5 ⟨y1, rfl, ry1⟩
    (repeat (first | refine G.step ?_ | (refine Gs.alloc ?_; intro _) | refine Gs.store ?_))
    refine Gs.call0 (k2 h5) ?_
    rintro _ h6 le6 ⟨y2, rfl, ry2⟩
    replace ra := ra.mono (le5.trans le6)
    (repeat (first | refine G.step ?_ | (refine Gs.alloc ?_; intro _) | refine Gs.store ?_ | refine Gs.dr ?_ | refine G.qkp ?_ | refine Gs.qkb ?_ | refine G.gdby (by first | (simp; done) | omega) ?_))
    refine Gs.callv0 (same_ok g g y1 y2 h6 (ry1.mono le6) ry2 (by omega)) ?_
    rw [decide_eq_true rfl]
    (repeat (first | refine G.qkp ?_ | refine Gs.qkb ?_ | refine G.gdtt ?_ | refine G.gdby (by first | (simp; done) | omega) ?_))
    rw [show IntKind.i64.wrap w0_ = w0_ from wrap_in (by omega)]
    refine Gs.callv0 (winner_ok a xa w0_ h6 ra (by omega)) ?_
    (repeat (first | refine G.withT ?_ | refine Gs.withb ?_))
    refine Gs.callv0 (rwinner_ok a xa w0_ h6 ra (by omega)) ?_
    generalize (if w0_ = 0 then (if leq a Va.zero then (1 : Int) else 0) else (if leq Va.zero a then 0 else 1)) = wn at *
    (repeat (first | refine G.qkp ?_ | refine Gs.qkb ?_ | refine G.gdby (by first | (simp; done) | omega) ?_))
    refine Gs.callv0 (winner_ok a xa 0 h6 ra (by omega)) ?_
    (repeat (refine Gs.withb ?_))
    refine Gs.callv0 (rwinner_ok a xa 0 h6 ra (by omega)) ?_
    generalize (if (0 : Int) = 0 then (if leq a Va.zero then (1 : Int) else 0) else (if leq Va.zero a then 0 else 1)) = wn at *
    (repeat (first | refine G.qkp ?_ | refine G.gdby (by first | (simp; done) | omega) ?_))
    exact Gs.ret rfl
  · intro k15 hk15
    (repeat (first | refine Gs.dr ?_ | refine Gs.qkb ?_))
    refine Gs.callv0 (size_ok 9 a sa (by decide) h4 xa ra) ?_
    (repeat (refine Gs.withb ?_))
    refine Gs.callv0 (rsize_ok 9 a sa (by decide) h4 xa ra) ?_
    (repeat (first | refine G.qkp ?_ | refine Gs.qkb ?_ | refine G.gdbn (by first | (simp; done) | omega) ?_))
    refine Gs.callv0 (leq_ok a b xa xb h4 ra rb (by omega)) ?_
    (repeat (refine Gs.withb ?_))
    refine Gs.callv0 (rleq_ok (sz a + sz b) a b (Nat.le_refl _) (by omega) h4 xa xb ra rb) ?_
    (repeat (first | refine G.qkp ?_ | refine Gs.qkb ?_ | refine G.gdbn (by first | (simp; done) | omega) ?_))
    refine Gs.callv0 (leq_ok b a xb xa h4 rb ra (by omega)) ?_
    (repeat (refine Gs.withb ?_))
    refine Gs.callv0 (rleq_ok (sz b + sz a) b a (Nat.le_refl _) (by omega) h4 xb xa rb ra) ?_
    (repeat (first | refine G.qkp ?_ | refine Gs.qkb ?_ | refine G.gdbn (by first | (simp; done) | omega) ?_))
    refine Gs.callv0 (print_ok a xa h4 ra (by omega)) ?_
    (repeat (refine Gs.withb ?_))
    refine Gs.callv0 (rprint_ok 9 a sa (by decide) h4 xa ra) ?_
    (repeat (first | refine G.qkp ?_ | refine Gs.qkb ?_ | refine G.gdbn (by first | (simp; done) | omega) ?_))
    refine Gs.call0 (neg_ok 9 a sa (by decide) h4 xa ra) ?_
    rintro _ h5 le5 ⟨y1, rfl, s1⟩
    (repeat (refine Gs.withb ?_))
    refine Gs.call0 (rneg_ok 9 a sa (by decide) h5 xa (ra.mono le5)) ?_
    rintro _ h6 le6 ⟨y2, rfl, s2⟩
    have hn9 : sz (neg a) ≤ 9 := by rw [sz_neg]; exact sa
    refine Gs.callv0 (same_ok (neg a) (neg a) y1 y2 h6 (s1.mono le6) s2 (by omega)) ?_
    rw [decide_eq_true rfl]
    (repeat (first | refine G.qkp ?_ | refine Gs.qkb ?_ | refine G.gdff ?_))
    have le46 := le5.trans le6
    refine Gs.call0 (canon_okC a xa h6 (ra.mono le46) (by omega)) ?_
    rintro _ h7 le7 ⟨y3, rfl, s3⟩
    (repeat (refine Gs.withb ?_))
    refine Gs.call0 (rcanon_ok 9 a sa (by decide) h7 xa (ra.mono (le46.trans le7))) ?_
    rintro _ h8 le8 ⟨y4, rfl, s4⟩
    refine Gs.callv0 (same_ok (canon a) (canon a) y3 y4 h8 (s3.mono le8) s4 (by omega)) ?_
    rw [decide_eq_true rfl]
    (repeat (first | refine G.qkp ?_ | refine Gs.qkb ?_ | refine G.gdff ?_))
    have le48 := le46.trans (le7.trans le8)
    refine Gs.call0 (add_ok (sz c + sz d) c d (Nat.le_refl _) (by omega) h8 xc xd (rc.mono le48) (rd.mono le48)) ?_
    rintro _ h9 le9 ⟨y5, rfl, s5⟩
    (repeat (refine Gs.withb ?_))
    refine Gs.call0 (radd_ok (sz c + sz d) c d (Nat.le_refl _) (by omega) h9 xc xd (rc.mono (le48.trans le9)) (rd.mono (le48.trans le9))) ?_
    rintro _ h10 le10 ⟨y6, rfl, s6⟩
    refine Gs.callv0 (same_ok (add c d) (add c d) y5 y6 h10 (s5.mono le10) s6 (by omega)) ?_
    rw [decide_eq_true rfl]
    (repeat (refine G.qkp ?_))
    exact Gs.weak h04 (le48.trans (le9.trans le10)) (hk15 _ rfl)
end Go.Proofs.YtgdochemlbjnlaaGreat
