/-
  Values: the law ValueCanon, walked.
-/
import Derived.Test.YtgdochemlbjnlaaVg
set_option linter.unusedVariables false
set_option linter.unusedSimpArgs false
set_option linter.unusedSectionVars false
set_option maxHeartbeats 2000000
set_option maxRecDepth 100000
namespace Go.Proofs.Ytgdochemlbjnlaa
open Go Go.Sk Go.Va Go.RowKit
variable {M : Go.Sk.Mode}
attribute [local irreducible] Go.Sk.vCall Go.Sk.Ct
instance Yd.sgeq {P : Program} {S : WP} {t : TypeId} {a b : List UInt8} : Yd P S (V (binOp .geq t (Str a) (Str b))) (.bool (!Op.bytesLess a b)) := Yd.of fun w => by
  rw [run_strOp (.inr (.inr (.inr rfl)))]
  simp [Op.stringOp, pure, Sem.run]
theorem canon_okL (q0 q1 : SlH) (l0 l1 : List UInt8) (h : Hp) (r0 : RdE h (slv q0) eByte 1 l0) (r1 : RdE h (slv q1) eByte 1 l1) (n0 : l0.length ≤ 9223372036854775807) (n1 : l1.length ≤ 9223372036854775807) : Ct Try.prog 5 [slv q0, slv q1] h (fun _ v => v = .bool true) := by
  refine ct5 ?_
  intro w0
  unfold s5
  refine Gs.callv0 (sanity_ok h) ?_
  refine Gs.call0 (rmade_ok q0 l0 12 h r0 n0 (by decide)) ?_
  rintro _ h1 le1 ⟨xa, a, rfl, ra, sa⟩
  refine Gs.call0 (rmade_ok q1 l1 12 h1 (r1.mono le1) n1 (by decide)) ?_
  rintro _ h2 le2 ⟨xb, b, rfl, rb, sb⟩
  replace ra := ra.mono le2
  (repeat (first | (refine Gs.alloc ?_; intro _) | refine Gs.store ?_ | refine Gs.dr ?_))
  rename_i ba bb
  refine both (FN := 16) (G' := canon) (a := ba) (b := bb) ra rb (fun f hf h x hx => canon_okC f x h hx (by simp only [List.mem_cons, List.not_mem_nil, or_false] at hf; rcases hf with rfl | rfl <;> omega)) (by decide) (by decide) ?_
  intro h3 t bc bd xc xd le3 e1 e2 rc rd
  rw [e1, e2]
  clear e1 e2
  replace ra := ra.mono le3
  replace rb := rb.mono le3
  obtain ⟨ca, ea, za⟩ := canon_ok a
  obtain ⟨cb, eb, zb⟩ := canon_ok b
  have h03 : Hle h h3 := le1.trans (le2.trans le3)
  have hif : decide (canon a = canon b) = (leq a b && leq b a) := by
    rw [Bool.eq_iff_iff, decide_eq_true_iff, ← canon_iff, Bool.and_eq_true]
    exact Iff.rfl
  generalize canon a = c at *
  generalize canon b = d at *
  refine G.jnP (fun j => j = .bool false) ?_ ?_
  · rintro _ rfl
    refine G.jk ?_; intro _
    (repeat (refine G.iff ?_))
    refine Gs.lp (β := Nat × Hp) (fun u => I u.1) (fun u => u.2) (fun _ => [.blk bc [slv xc.1, slv xc.2] 27, .blk bd [slv xd.1, slv xd.2] 27, .blk bb [slv xb.1, slv xb.2] 27, .blk ba [slv xa.1, slv xa.2] 27]) (fun u => u.1 ≤ c.L.length ∧ Hle h3 u.2) (fun u => c.L.length - u.1) (0, h3) rfl ⟨Nat.zero_le _, Hle.refl h3⟩ (fun _ s => s) ?_
    rintro ⟨i, hh⟩ ⟨hi, hle⟩ cont hc
    dsimp only at hi hle hc ⊢
    replace ra := ra.mono hle
    replace rb := rb.mono hle
    replace rc := rc.mono hle
    replace rd := rd.mono hle
    have hlen := lenL c
    (repeat (first | refine G.step ?_ | (refine G.jk ?_; intro _)))
    refine Gs.lenF rc.l (by omega) ?_
    (repeat (refine G.step ?_))
    refine G.ifd ?_ ?_ <;> intro hlt
    · have hlt' : i < c.L.length := by omega
      have hmem : c.L[i] ∈ c.L := List.getElem_mem hlt'
      have hsz := sz_L hmem
      refine G.jnk (fun (j : Value) S' => ∃ h', j = .bool false ∧ Hle hh h' ∧ S' = St w0 h h' [.blk bc [slv xc.1, slv xc.2] 27, .blk bd [slv xd.1, slv xd.2] 27, .blk bb [slv xb.1, slv xb.2] 27, .blk ba [slv xa.1, slv xa.2] 27]) ?_ ?_
      · rintro _ _ ⟨h', rfl, le', rfl⟩
        refine G.jk ?_; intro _
        (repeat (refine G.iff ?_))
        replace ra := ra.mono le'
        replace rb := rb.mono le'
        replace rc := rc.mono le'
        replace rd := rd.mono le'
        have hlenr := lenR c.L[i]
        refine Gs.lp (β := Nat) (fun k => I k) (fun _ => h') (fun _ => [.blk bc [slv xc.1, slv xc.2] 27, .blk bd [slv xd.1, slv xd.2] 27, .blk bb [slv xb.1, slv xb.2] 27, .blk ba [slv xa.1, slv xa.2] 27]) (fun k => k ≤ c.L[i].R.length) (fun k => c.L[i].R.length - k) 0 rfl (Nat.zero_le _) (fun _ s => s) ?_
        rintro k hk cont2 hc2
        refine G.jk ?_; intro _
        (repeat (refine G.step ?_))
        refine Gs.indexF rc.l hlt' ?_
        intro b1 o1 x1 hp1 hx1
        (repeat (refine G.step ?_))
        refine Gs.loadP1 (hp1.field (c := 1)) ?_
        refine Gs.lenF hx1.r (by omega) ?_
        (repeat (refine G.step ?_))
        refine G.ifd ?_ ?_ <;> intro hltk
        · have hltk' : k < c.L[i].R.length := by omega
          have hmk : c.L[i].R[k] ∈ c.L[i].R := List.getElem_mem hltk'
          have hszk := sz_R hmk
          (repeat (first | refine Gs.dr ?_ | refine G.qkp ?_ | refine Gs.qkb ?_))
          refine Gs.qindexF rc.l hlt' ?_
          intro b2 o2 x2 hp2 hx2
          (repeat (refine G.qkp ?_))
          refine Gs.qloadP1 (hp2.field (c := 1)) ?_
          refine Gs.qindexF hx2.r hltk' ?_
          intro b3 o3 x3 hp3 hx3
          refine Gs.qloadE hp3 ?_
          (repeat (refine Gs.qkb ?_))
          refine Gs.callv0 (leq_ok c.L[i].R[k] c x3 xc h' hx3 rc (by omega)) ?_
          rw [leq_f (ca.loc.nl _ hmem _ hmk)]
          (repeat (first | refine G.add (by omega) ?_ | refine G.iff ?_))
          exact Gs.go (hc2 (k + 1) (by omega) (by omega)) (by simp)
        · (repeat (refine G.add (by omega) ?_))
          exact Gs.go (hc (i + 1, h') ⟨by dsimp only; omega, hle.trans le'⟩ (by dsimp only; omega)) (by simp)
      · intro k15 hk15
        have hcan : canon c.L[i] = c.L[i] := canon_of_can (ca.l _ hmem)
        (repeat (first | refine Gs.dr ?_ | refine G.qkp ?_))
        refine G.gddt ?_ ?_ <;> intro hpos
        · have hlt1 : i - 1 < c.L.length := by omega
          have hsz1 := sz_L (List.getElem_mem hlt1)
          (repeat (first | refine G.qsub (by omega) ?_ | refine G.qkp ?_ | refine Gs.qkb ?_))
          rw [show (i : Int) - 1 = ((i - 1 : Nat) : Int) by omega]
          refine Gs.qindexF rc.l hlt1 ?_
          intro b1 o1 x1 hp1 hx1
          refine Gs.qloadE hp1 ?_
          (repeat (first | refine G.qkp ?_ | refine Gs.qkb ?_))
          refine Gs.qindexF rc.l hlt' ?_
          intro b2 o2 x2 hp2 hx2
          refine Gs.qloadE hp2 ?_
          refine Gs.callv0 (print_ok _ x1 hh hx1 (by omega)) ?_
          (repeat (first | refine Gs.withf (Hle.refl _) ?_ | refine Gs.withb ?_ | refine G.withT ?_))
          refine Gs.callv0 (print_ok _ x2 hh hx2 (by omega)) ?_
          have hsrt : Op.bytesLess (pr c.L[i - 1]) (pr c.L[i]) = true := by
            have := (List.pairwise_iff_getElem.1 ca.loc.sl) (i - 1) i hlt1 hlt' (by omega)
            rw [bytesLess_eq]; exact this
          (repeat (refine G.qkp ?_))
          rw [hsrt]
          (repeat (first | refine G.qkp ?_ | refine Gs.qkb ?_ | refine G.gdff ?_))
          refine Gs.qindexF rc.l hlt' ?_
          intro b3 o3 x3 hp3 hx3
          refine Gs.qloadE hp3 ?_
          (repeat (first | refine G.qkp ?_ | refine Gs.qkb ?_))
          refine Gs.qindexF rc.l hlt' ?_
          intro b4 o4 x4 hp4 hx4
          refine Gs.qloadE hp4 ?_
          refine Gs.call0 (canon_okC c.L[i] x3 hh hx3 (by omega)) ?_
          rintro _ h4 le4 ⟨y, rfl, ry⟩
          rw [hcan] at ry
          (repeat (first | refine Gs.withf le4 ?_ | refine Gs.withb ?_ | refine G.withT ?_))
          refine Gs.callv0 (same_ok _ _ y x4 h4 ry (hx4.mono le4) (by omega)) ?_
          rw [decide_eq_true rfl]
          (repeat (refine G.qkp ?_))
          exact hk15 _ _ ⟨h4, rfl, le4, rfl⟩
        · (repeat (first | refine G.qkp ?_ | refine Gs.qkb ?_))
          refine Gs.qindexF rc.l hlt' ?_
          intro b3 o3 x3 hp3 hx3
          refine Gs.qloadE hp3 ?_
          (repeat (first | refine G.qkp ?_ | refine Gs.qkb ?_))
          refine Gs.qindexF rc.l hlt' ?_
          intro b4 o4 x4 hp4 hx4
          refine Gs.qloadE hp4 ?_
          refine Gs.call0 (canon_okC c.L[i] x3 hh hx3 (by omega)) ?_
          rintro _ h4 le4 ⟨y, rfl, ry⟩
          rw [hcan] at ry
          (repeat (first | refine Gs.withf le4 ?_ | refine Gs.withb ?_ | refine G.withT ?_))
          refine Gs.callv0 (same_ok _ _ y x4 h4 ry (hx4.mono le4) (by omega)) ?_
          rw [decide_eq_true rfl]
          (repeat (refine G.qkp ?_))
          exact hk15 _ _ ⟨h4, rfl, le4, rfl⟩
    · (repeat (first | refine Gs.dr ?_ | refine Gs.qkb ?_))
      refine Gs.callv0 (equal_ok a b xa xb hh ra rb (by omega)) ?_
      (repeat (refine Gs.withb ?_))
      refine Gs.callv0 (same_ok c d xc xd hh rc rd (by omega)) ?_
      rw [hif]
      (repeat (refine G.qkp ?_))
      refine G.gdy rfl ?_
      exact Gs.ret rfl
  · intro k hk
    have hcc : canon c = c := canon_of_can ca
    (repeat (first | refine Gs.dr ?_ | refine Gs.qkb ?_))
    refine Gs.callv0 (rsize_ok 12 c (by omega) (by decide) h3 xc rc) ?_
    (repeat (refine G.qkp ?_))
    refine G.gdyf (by omega) ?_
    (repeat (refine Gs.qkb ?_))
    refine Gs.callv0 (rsize_ok 12 d (by omega) (by decide) h3 xd rd) ?_
    (repeat (refine G.qkp ?_))
    refine G.gdyf (by omega) ?_
    (repeat (refine Gs.qkb ?_))
    refine Gs.callv0 (equal_ok a c xa xc h3 ra rc (by omega)) ?_
    rw [leq_t ea.1, leq_t ea.2]
    (repeat (first | refine G.qkp ?_ | refine Gs.qkb ?_ | refine G.gdff ?_))
    refine Gs.callv0 (size_ok 12 c (by omega) (by decide) h3 xc rc) ?_
    (repeat (refine Gs.withb ?_))
    refine Gs.callv0 (size_ok 12 a (by omega) (by decide) h3 xa ra) ?_
    (repeat (refine G.qkp ?_))
    refine G.gdyf (by omega) ?_
    (repeat (refine Gs.qkb ?_))
    refine Gs.call0 (canon_okC c xc h3 rc (by omega)) ?_
    rintro _ h4 le4 ⟨y, rfl, ry⟩
    rw [hcc] at ry
    (repeat (refine Gs.withb ?_))
    refine Gs.callv0 (same_ok c c y xc h4 ry (rc.mono le4) (by omega)) ?_
    rw [decide_eq_true rfl]
    (repeat (refine G.qkp ?_))
    exact Gs.weak h03 le4 (hk _ rfl)
end Go.Proofs.Ytgdochemlbjnlaa
