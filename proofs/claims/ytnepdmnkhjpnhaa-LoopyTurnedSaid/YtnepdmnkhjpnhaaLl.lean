/-
  Lemmas for the proof of the statement of this claim: a part of the road, no statement of its own. Conditions: those that each lemma names.
-/
import Derived.Test.YtnepdmnkhjpnhaaLk
set_option linter.unusedVariables false
set_option linter.unusedSimpArgs false
set_option linter.unusedSectionVars false
set_option maxHeartbeats 60000000
set_option maxRecDepth 10000
namespace Go.Proofs.Ytnepdmnkhjpnhaa
open Go Go.Sk Go.Lp Go.RowKit
variable {M : Go.Sk.Mode}
attribute [local irreducible] Go.Sk.vCall Go.Sk.Ct
theorem turnedL_ok (l : List (UInt8 × UInt8)) (q : SlH) (n a b c : UInt8) (h : Hp) (hq : RdE h (slv q) eB2 2 l) (hll : l.length ≤ 9223372036854775807) : Ct Try.prog 8 [slv q, .int .u8 n.toNat, .agg #[.int .u8 a.toNat, .int .u8 b.toNat, .int .u8 c.toNat]] h (fun _ v => v = .bool true) := by
  refine ct8 ?_
  intro w0
  unfold s8
  have hn := u8lt n
  (repeat (first | refine G.add (by omega) ?_ | refine G.sub (by omega) ?_ | refine G.mul (by omega) ?_ | refine G.neg (by omega) ?_ | refine G.quo (by omega) (by omega) ?_ | refine G.rem (by omega) ?_ | refine G.shr (by omega) ?_ | refine G.conv (by omega) ?_ | refine G.step ?_ | refine G.buildA (by rfl) ?_ | (refine Gs.box ?_; intro _) | (refine Gs.alloc ?_; intro _) | refine Gs.store ?_ | refine G.retc ?_ | refine Gs.dr ?_ | refine G.qadd (by omega) ?_ | refine G.qsub (by omega) ?_ | refine G.qmul (by omega) ?_ | refine G.qneg (by omega) ?_ | refine G.qkp ?_ | refine Gs.qkb ?_ | refine G.withT ?_ | refine Gs.withb ?_ | refine G.ift ?_ | refine G.iff ?_ | refine G.gdtt ?_ | refine G.gdff ?_ | refine G.gdtf ?_ | refine G.gdft ?_ | (refine G.jk ?_; intro _)))
  rename_i wb
  refine Gs.callv0 (sanity_ok h) ?_
  (repeat (first | refine G.add (by omega) ?_ | refine G.sub (by omega) ?_ | refine G.mul (by omega) ?_ | refine G.neg (by omega) ?_ | refine G.quo (by omega) (by omega) ?_ | refine G.rem (by omega) ?_ | refine G.shr (by omega) ?_ | refine G.conv (by omega) ?_ | refine G.step ?_ | refine G.buildA (by rfl) ?_ | (refine Gs.box ?_; intro _) | (refine Gs.alloc ?_; intro _) | refine Gs.store ?_ | refine G.retc ?_ | refine Gs.dr ?_ | refine G.qadd (by omega) ?_ | refine G.qsub (by omega) ?_ | refine G.qmul (by omega) ?_ | refine G.qneg (by omega) ?_ | refine G.qkp ?_ | refine Gs.qkb ?_ | refine G.withT ?_ | refine Gs.withb ?_ | refine G.ift ?_ | refine G.iff ?_ | refine G.gdtt ?_ | refine G.gdff ?_ | refine G.gdtf ?_ | refine G.gdft ?_ | (refine G.jk ?_; intro _)))
  refine Gs.call0 (made_ok l q n _ h hq hll) ?_
  rintro _ h1 le1 ⟨x, g, rfl, hG1, hM⟩
  have hS := hM.gs
  have hg := hM.v
  have hgv := hM.gv
  have hgt := tg_GV hg
  have hgvt : gvB (tg g) = true := gvB_iff.2 hgt
  have hSt := GS.of hgt
  have hGt1 : GrR h1 (x.2, x.1) (tg g) := ⟨hG1.r, hG1.l⟩
  have hs := spotV_S4 hg a b c
  have hsp := spotV_ok (M := M) g x a b c h1 hG1 hg
  generalize spotV g a b c = s at *
  have hsn := hs.sn
  have hs4 := hs.2.2
  have hlr := hg.lr
  have hl32 := hg.l1
  have hnode := hs.1
  have hnode2 := hs.2.1
  have htn : SN (tg g) 16 (ts s) := by
    refine ⟨hs.1, by show s.1 < (g.R.length : Int); omega, ?_, ?_, ?_⟩ <;> simp only [ts] <;> omega
  (repeat (first | refine G.add (by omega) ?_ | refine G.sub (by omega) ?_ | refine G.mul (by omega) ?_ | refine G.neg (by omega) ?_ | refine G.quo (by omega) (by omega) ?_ | refine G.rem (by omega) ?_ | refine G.shr (by omega) ?_ | refine G.conv (by omega) ?_ | refine G.step ?_ | refine G.buildA (by rfl) ?_ | (refine Gs.box ?_; intro _) | (refine Gs.alloc ?_; intro _) | refine Gs.store ?_ | refine G.retc ?_ | refine Gs.dr ?_ | refine G.qadd (by omega) ?_ | refine G.qsub (by omega) ?_ | refine G.qmul (by omega) ?_ | refine G.qneg (by omega) ?_ | refine G.qkp ?_ | refine Gs.qkb ?_ | refine G.withT ?_ | refine Gs.withb ?_ | refine G.ift ?_ | refine G.iff ?_ | refine G.gdtt ?_ | refine G.gdff ?_ | refine G.gdtf ?_ | refine G.gdft ?_ | (refine G.jk ?_; intro _)))
  rename_i xb
  refine G.jnk (fun j S' => ∃ yb sb L2, j = (ptr yb 0, ptr sb 0) ∧ S' = St w0 h h1 L2 ∧ Itm.blk yb [slv x.2, slv x.1] 27 ∈ L2 ∧ Itm.blk sb [I s.1, I s.2.1, I s.2.2] 30 ∈ L2 ∧ Itm.blk xb [slv x.1, slv x.2] 27 ∈ L2) ?_ ?_
  · rintro _ _ ⟨yb, sb, L2, rfl, rfl, my, ms, mx⟩
    refine G.jk ?_; intro _
    dsimp only
    haveI iy : Blk L2 yb [slv x.2, slv x.1] 27 := ⟨my⟩
    haveI is' : Blk L2 sb [I s.1, I s.2.1, I s.2.2] 30 := ⟨ms⟩
    haveI ix : Blk L2 xb [slv x.1, slv x.2] 27 := ⟨mx⟩
    (repeat (first | refine G.add (by omega) ?_ | refine G.sub (by omega) ?_ | refine G.mul (by omega) ?_ | refine G.neg (by omega) ?_ | refine G.quo (by omega) (by omega) ?_ | refine G.rem (by omega) ?_ | refine G.shr (by omega) ?_ | refine G.conv (by omega) ?_ | refine G.step ?_ | refine G.buildA (by rfl) ?_ | (refine Gs.box ?_; intro _) | (refine Gs.alloc ?_; intro _) | refine Gs.store ?_ | refine G.retc ?_ | refine Gs.dr ?_ | refine G.qadd (by omega) ?_ | refine G.qsub (by omega) ?_ | refine G.qmul (by omega) ?_ | refine G.qneg (by omega) ?_ | refine G.qkp ?_ | refine Gs.qkb ?_ | refine G.withT ?_ | refine Gs.withb ?_ | refine G.ift ?_ | refine G.iff ?_ | refine G.gdtt ?_ | refine G.gdff ?_ | refine G.gdtf ?_ | refine G.gdft ?_ | (refine G.jk ?_; intro _)))
    rename_i tb
    refine G.jnk (fun j S' => ∃ ab bb L3, j = (ptr ab 0, ptr bb 0) ∧ S' = St w0 h h1 L3 ∧ Itm.blk ab [I (solv g s).1, I (solv g s).2] 33 ∈ L3 ∧ Itm.blk bb [I (solv (tg g) (ts s)).1, I (solv (tg g) (ts s)).2] 33 ∈ L3 ∧ Itm.blk tb [I s.1, I (-s.2.1), I (1 - s.2.2)] 30 ∈ L3 ∧ ∀ it ∈ L2, it ∈ L3) ?_ ?_
    · rintro _ _ ⟨ab, bb, L3, rfl, rfl, ma, mb, mt, msub⟩
      refine G.jk ?_; intro _
      dsimp only
      haveI iy : Blk L3 yb [slv x.2, slv x.1] 27 := ⟨msub _ my⟩
      haveI is' : Blk L3 sb [I s.1, I s.2.1, I s.2.2] 30 := ⟨msub _ ms⟩
      haveI ix : Blk L3 xb [slv x.1, slv x.2] 27 := ⟨msub _ mx⟩
      haveI it' : Blk L3 tb [I s.1, I (-s.2.1), I (1 - s.2.2)] 30 := ⟨mt⟩
      rw [solv_of hgv hsn] at ma
      rw [solv_of hgvt htn, left_ts hsn.2.2.2.2] at mb
      haveI ia : Blk L3 ab [I (left g s), I 0] 33 := ⟨ma⟩
      haveI ib : Blk L3 bb [I (4 - left g s), I 0] 33 := ⟨mb⟩
      have hlc := left_cases g s
      refine G.jnP (fun j => j = .bool false) ?_ ?_
      · rintro _ rfl
        refine G.jk ?_; intro _
        obtain ⟨lo, hi, hbd, hlo, hhi⟩ := BdS.ok hgv ⟨hnode, hnode2⟩
        have hbt : BdS (tg g) s.1 (-hi, -lo, 0) := .inr (.inr ⟨hgvt, ⟨hnode, by show s.1 < (g.R.length : Int); omega⟩, hi_ts hhi, lo_ts hlo, rfl⟩)
        have r1 := hlo.1
        have r2 := hlo.2.1
        have r3 := hhi.1
        have r4 := hhi.2.1
        (repeat (first | refine G.add (by omega) ?_ | refine G.sub (by omega) ?_ | refine G.mul (by omega) ?_ | refine G.neg (by omega) ?_ | refine G.quo (by omega) (by omega) ?_ | refine G.rem (by omega) ?_ | refine G.shr (by omega) ?_ | refine G.conv (by omega) ?_ | refine G.step ?_ | refine G.buildA (by rfl) ?_ | (refine Gs.box ?_; intro _) | (refine Gs.alloc ?_; intro _) | refine Gs.store ?_ | refine G.retc ?_ | refine Gs.dr ?_ | refine G.qadd (by omega) ?_ | refine G.qsub (by omega) ?_ | refine G.qmul (by omega) ?_ | refine G.qneg (by omega) ?_ | refine G.qkp ?_ | refine Gs.qkb ?_ | refine G.withT ?_ | refine Gs.withb ?_ | refine G.ift ?_ | refine G.iff ?_ | refine G.gdtt ?_ | refine G.gdff ?_ | refine G.gdtf ?_ | refine G.gdft ?_ | (refine G.jk ?_; intro _)))
        refine G.jnk (fun j S' => ∃ cb db L4, j = (ptr cb 0, ptr db 0) ∧ S' = St w0 h h1 L4 ∧ Itm.blk cb [I lo, I hi, I 0] 46 ∈ L4 ∧ Itm.blk db [I (-hi), I (-lo), I 0] 46 ∈ L4 ∧ ∀ it ∈ L3, it ∈ L4) ?_ ?_
        · rintro _ _ ⟨cb, db, L4, rfl, rfl, mc, md, msub4⟩
          refine G.jk ?_; intro _
          dsimp only
          haveI iy : Blk L4 yb [slv x.2, slv x.1] 27 := ⟨msub4 _ (msub _ my)⟩
          haveI is' : Blk L4 sb [I s.1, I s.2.1, I s.2.2] 30 := ⟨msub4 _ (msub _ ms)⟩
          haveI ix : Blk L4 xb [slv x.1, slv x.2] 27 := ⟨msub4 _ (msub _ mx)⟩
          haveI it' : Blk L4 tb [I s.1, I (-s.2.1), I (1 - s.2.2)] 30 := ⟨msub4 _ mt⟩
          haveI ic : Blk L4 cb [I lo, I hi, I 0] 46 := ⟨mc⟩
          haveI id' : Blk L4 db [I (-hi), I (-lo), I 0] 46 := ⟨md⟩
          refine G.jnP (fun j => j = .bool false) ?_ ?_
          · rintro _ rfl
            refine G.jk ?_; intro _
            (repeat (first | refine G.add (by omega) ?_ | refine G.sub (by omega) ?_ | refine G.mul (by omega) ?_ | refine G.neg (by omega) ?_ | refine G.quo (by omega) (by omega) ?_ | refine G.rem (by omega) ?_ | refine G.shr (by omega) ?_ | refine G.conv (by omega) ?_ | refine G.step ?_ | refine G.buildA (by rfl) ?_ | (refine Gs.box ?_; intro _) | (refine Gs.alloc ?_; intro _) | refine Gs.store ?_ | refine G.retc ?_ | refine Gs.dr ?_ | refine G.qadd (by omega) ?_ | refine G.qsub (by omega) ?_ | refine G.qmul (by omega) ?_ | refine G.qneg (by omega) ?_ | refine G.qkp ?_ | refine Gs.qkb ?_ | refine G.withT ?_ | refine Gs.withb ?_ | refine G.ift ?_ | refine G.iff ?_ | refine G.gdtt ?_ | refine G.gdff ?_ | refine G.gdtf ?_ | refine G.gdft ?_ | (refine G.jk ?_; intro _)))
            refine G.jnk (fun j S' => ∃ pb qb L5 h5 q1 q2 l1 l2 e1 e2, j = (ptr pb 0, ptr qb 0) ∧ S' = St w0 h h5 L5 ∧ Itm.blk pb [slv q1, I e1] 37 ∈ L5 ∧ Itm.blk qb [slv q2, I e2] 37 ∈ L5 ∧ PvS g s 0 l1 e1 ∧ PvS (tg g) (ts s) 1 l2 e2 ∧ RdE h5 (slv q1) eSp 3 l1 ∧ RdE h5 (slv q2) eSp 3 l2) ?_ ?_
            · rintro _ _ ⟨pb, qb, L5, h5, q1, q2, l1, l2, e1, e2, rfl, rfl, mp, mq, hp1, hp2, hr1, hr2⟩
              refine G.jk ?_; intro _
              dsimp only
              haveI ip : Blk L5 pb [slv q1, I e1] 37 := ⟨mp⟩
              haveI iq : Blk L5 qb [slv q2, I e2] 37 := ⟨mq⟩
              have hl1 := hp1.len
              have hl2 := hp2.len
              have heq : e1 = e2 ∧ l1.length = l2.length := by
                have hlt := left_ts (g := g) hsn.2.2.2.2
                rcases hp1.cases hgv hsn (.inl rfl) with ⟨a1, a2, a3⟩ | ⟨a1, a2, a3⟩ <;> rcases hp2.cases hgvt htn (.inr rfl) with ⟨b1, b2, b3⟩ | ⟨b1, b2, b3⟩
                · exact ⟨by rw [a3, b3], by rw [a2, b2]⟩
                · exfalso; apply b1; rw [hlt, a1]; decide
                · exfalso; apply a1; rw [hlt] at b1; simp [lost] at b1 ⊢; omega
                · exact ⟨by rw [a3, b3], prs_ts (.inl rfl) hsn.2.2.2.2 a2 b2⟩
              (repeat (first | refine G.add (by omega) ?_ | refine G.sub (by omega) ?_ | refine G.mul (by omega) ?_ | refine G.neg (by omega) ?_ | refine G.quo (by omega) (by omega) ?_ | refine G.rem (by omega) ?_ | refine G.shr (by omega) ?_ | refine G.conv (by omega) ?_ | refine G.step ?_ | refine G.buildA (by rfl) ?_ | (refine Gs.box ?_; intro _) | (refine Gs.alloc ?_; intro _) | refine Gs.store ?_ | refine G.retc ?_ | refine Gs.dr ?_ | refine G.qadd (by omega) ?_ | refine G.qsub (by omega) ?_ | refine G.qmul (by omega) ?_ | refine G.qneg (by omega) ?_ | refine G.qkp ?_ | refine Gs.qkb ?_ | refine G.withT ?_ | refine Gs.withb ?_ | refine G.ift ?_ | refine G.iff ?_ | refine G.gdtt ?_ | refine G.gdff ?_ | refine G.gdtf ?_ | refine G.gdft ?_ | (refine G.jk ?_; intro _)))
              refine G.gdy heq.1 ?_
              (repeat (first | refine G.add (by omega) ?_ | refine G.sub (by omega) ?_ | refine G.mul (by omega) ?_ | refine G.neg (by omega) ?_ | refine G.quo (by omega) (by omega) ?_ | refine G.rem (by omega) ?_ | refine G.shr (by omega) ?_ | refine G.conv (by omega) ?_ | refine G.step ?_ | refine G.buildA (by rfl) ?_ | (refine Gs.box ?_; intro _) | (refine Gs.alloc ?_; intro _) | refine Gs.store ?_ | refine G.retc ?_ | refine Gs.dr ?_ | refine G.qadd (by omega) ?_ | refine G.qsub (by omega) ?_ | refine G.qmul (by omega) ?_ | refine G.qneg (by omega) ?_ | refine G.qkp ?_ | refine Gs.qkb ?_ | refine G.withT ?_ | refine Gs.withb ?_ | refine G.ift ?_ | refine G.iff ?_ | refine G.gdtt ?_ | refine G.gdff ?_ | refine G.gdtf ?_ | refine G.gdft ?_ | (refine G.jk ?_; intro _)))
              refine Gs.lenE hr1 (by omega) ?_
              (repeat (first | refine G.add (by omega) ?_ | refine G.sub (by omega) ?_ | refine G.mul (by omega) ?_ | refine G.neg (by omega) ?_ | refine G.quo (by omega) (by omega) ?_ | refine G.rem (by omega) ?_ | refine G.shr (by omega) ?_ | refine G.conv (by omega) ?_ | refine G.step ?_ | refine G.buildA (by rfl) ?_ | (refine Gs.box ?_; intro _) | (refine Gs.alloc ?_; intro _) | refine Gs.store ?_ | refine G.retc ?_ | refine Gs.dr ?_ | refine G.qadd (by omega) ?_ | refine G.qsub (by omega) ?_ | refine G.qmul (by omega) ?_ | refine G.qneg (by omega) ?_ | refine G.qkp ?_ | refine Gs.qkb ?_ | refine G.withT ?_ | refine Gs.withb ?_ | refine G.ift ?_ | refine G.iff ?_ | refine G.gdtt ?_ | refine G.gdff ?_ | refine G.gdtf ?_ | refine G.gdft ?_ | (refine G.jk ?_; intro _)))
              refine Gs.lenE hr2 (by omega) ?_
              (repeat (first | refine G.add (by omega) ?_ | refine G.sub (by omega) ?_ | refine G.mul (by omega) ?_ | refine G.neg (by omega) ?_ | refine G.quo (by omega) (by omega) ?_ | refine G.rem (by omega) ?_ | refine G.shr (by omega) ?_ | refine G.conv (by omega) ?_ | refine G.step ?_ | refine G.buildA (by rfl) ?_ | (refine Gs.box ?_; intro _) | (refine Gs.alloc ?_; intro _) | refine Gs.store ?_ | refine G.retc ?_ | refine Gs.dr ?_ | refine G.qadd (by omega) ?_ | refine G.qsub (by omega) ?_ | refine G.qmul (by omega) ?_ | refine G.qneg (by omega) ?_ | refine G.qkp ?_ | refine Gs.qkb ?_ | refine G.withT ?_ | refine Gs.withb ?_ | refine G.ift ?_ | refine G.iff ?_ | refine G.gdtt ?_ | refine G.gdff ?_ | refine G.gdtf ?_ | refine G.gdft ?_ | (refine G.jk ?_; intro _)))
              refine G.gdy (by omega) ?_
              exact Gs.ret rfl
            · intro k23 hk23
              (repeat (first | refine G.add (by omega) ?_ | refine G.sub (by omega) ?_ | refine G.mul (by omega) ?_ | refine G.neg (by omega) ?_ | refine G.quo (by omega) (by omega) ?_ | refine G.rem (by omega) ?_ | refine G.shr (by omega) ?_ | refine G.conv (by omega) ?_ | refine G.step ?_ | refine G.buildA (by rfl) ?_ | (refine Gs.box ?_; intro _) | (refine Gs.alloc ?_; intro _) | refine Gs.store ?_ | refine G.retc ?_ | refine Gs.dr ?_ | refine G.qadd (by omega) ?_ | refine G.qsub (by omega) ?_ | refine G.qmul (by omega) ?_ | refine G.qneg (by omega) ?_ | refine G.qkp ?_ | refine Gs.qkb ?_ | refine G.withT ?_ | refine Gs.withb ?_ | refine G.ift ?_ | refine G.iff ?_ | refine G.gdtt ?_ | refine G.gdff ?_ | refine G.gdtf ?_ | refine G.gdft ?_ | (refine G.jk ?_; intro _)))
              (repeat' (first | refine Gs.withb ?_ | refine G.withT ?_ | (refine Gs.alloc ?_; intro _) | refine Gs.store ?_ | refine G.or2 ?_ ?_ | (refine Gs.call0 (proveL_ok g x s 0 h1 hG1 hS) ?_; rintro _ h4 le4 ⟨q1, l1, e1, hp1, hr1, rfl⟩) | (refine Gs.call0 (proveL_ok (tg g) (x.2, x.1) (ts s) 1 h4 (hGt1.mono le4) hSt) ?_; rintro _ h5 le5 ⟨q2, l2, e2, hp2, hr2, rfl⟩)))
              all_goals exact hk23 _ _ ⟨_, _, _, h5, q1, q2, l1, l2, e1, e2, rfl, rfl, by simp, by simp, hp1, hp2, hr1.mono le5, hr2⟩
          · intro K2 hK2
            (repeat (first | refine G.add (by omega) ?_ | refine G.sub (by omega) ?_ | refine G.mul (by omega) ?_ | refine G.neg (by omega) ?_ | refine G.quo (by omega) (by omega) ?_ | refine G.rem (by omega) ?_ | refine G.shr (by omega) ?_ | refine G.conv (by omega) ?_ | refine G.step ?_ | refine G.buildA (by rfl) ?_ | (refine Gs.box ?_; intro _) | (refine Gs.alloc ?_; intro _) | refine Gs.store ?_ | refine G.retc ?_ | refine Gs.dr ?_ | refine G.qadd (by omega) ?_ | refine G.qsub (by omega) ?_ | refine G.qmul (by omega) ?_ | refine G.qneg (by omega) ?_ | refine G.qkp ?_ | refine Gs.qkb ?_ | refine G.withT ?_ | refine Gs.withb ?_ | refine G.ift ?_ | refine G.iff ?_ | refine G.gdtt ?_ | refine G.gdff ?_ | refine G.gdtf ?_ | refine G.gdft ?_ | (refine G.jk ?_; intro _)))
            refine G.gddf (fun h => absurd (show lo = - -lo by omega) h) (fun _ => ?_)
            (repeat (first | refine G.add (by omega) ?_ | refine G.sub (by omega) ?_ | refine G.mul (by omega) ?_ | refine G.neg (by omega) ?_ | refine G.quo (by omega) (by omega) ?_ | refine G.rem (by omega) ?_ | refine G.shr (by omega) ?_ | refine G.conv (by omega) ?_ | refine G.step ?_ | refine G.buildA (by rfl) ?_ | (refine Gs.box ?_; intro _) | (refine Gs.alloc ?_; intro _) | refine Gs.store ?_ | refine G.retc ?_ | refine Gs.dr ?_ | refine G.qadd (by omega) ?_ | refine G.qsub (by omega) ?_ | refine G.qmul (by omega) ?_ | refine G.qneg (by omega) ?_ | refine G.qkp ?_ | refine Gs.qkb ?_ | refine G.withT ?_ | refine Gs.withb ?_ | refine G.ift ?_ | refine G.iff ?_ | refine G.gdtt ?_ | refine G.gdff ?_ | refine G.gdtf ?_ | refine G.gdft ?_ | (refine G.jk ?_; intro _)))
            exact hK2 _ (by rw [decide_eq_false]; omega)
        · intro k21 hk21
          (repeat (first | refine G.add (by omega) ?_ | refine G.sub (by omega) ?_ | refine G.mul (by omega) ?_ | refine G.neg (by omega) ?_ | refine G.quo (by omega) (by omega) ?_ | refine G.rem (by omega) ?_ | refine G.shr (by omega) ?_ | refine G.conv (by omega) ?_ | refine G.step ?_ | refine G.buildA (by rfl) ?_ | (refine Gs.box ?_; intro _) | (refine Gs.alloc ?_; intro _) | refine Gs.store ?_ | refine G.retc ?_ | refine Gs.dr ?_ | refine G.qadd (by omega) ?_ | refine G.qsub (by omega) ?_ | refine G.qmul (by omega) ?_ | refine G.qneg (by omega) ?_ | refine G.qkp ?_ | refine Gs.qkb ?_ | refine G.withT ?_ | refine Gs.withb ?_ | refine G.ift ?_ | refine G.iff ?_ | refine G.gdtt ?_ | refine G.gdff ?_ | refine G.gdtf ?_ | refine G.gdft ?_ | (refine G.jk ?_; intro _)))
          (repeat' (first | refine Gs.withb ?_ | refine G.withT ?_ | (refine Gs.alloc ?_; intro _) | refine Gs.store ?_ | refine G.or2 ?_ ?_ | refine Gs.callv0 (boundsV_ok g x s.1 (lo, hi, 0) hbd h1 hG1 hS (by omega)) ?_ | refine Gs.callv0 (boundsV_ok (tg g) (x.2, x.1) s.1 (-hi, -lo, 0) hbt h1 hGt1 hSt (by omega)) ?_))
          all_goals exact hk21 _ _ ⟨_, _, _, rfl, rfl, by simp, by simp, fun it h => by simp [h]⟩
      · intro K2 hK2
        (repeat (first | refine G.add (by omega) ?_ | refine G.sub (by omega) ?_ | refine G.mul (by omega) ?_ | refine G.neg (by omega) ?_ | refine G.quo (by omega) (by omega) ?_ | refine G.rem (by omega) ?_ | refine G.shr (by omega) ?_ | refine G.conv (by omega) ?_ | refine G.step ?_ | refine G.buildA (by rfl) ?_ | (refine Gs.box ?_; intro _) | (refine Gs.alloc ?_; intro _) | refine Gs.store ?_ | refine G.retc ?_ | refine Gs.dr ?_ | refine G.qadd (by omega) ?_ | refine G.qsub (by omega) ?_ | refine G.qmul (by omega) ?_ | refine G.qneg (by omega) ?_ | refine G.qkp ?_ | refine Gs.qkb ?_ | refine G.withT ?_ | refine Gs.withb ?_ | refine G.ift ?_ | refine G.iff ?_ | refine G.gdtt ?_ | refine G.gdff ?_ | refine G.gdtf ?_ | refine G.gdft ?_ | (refine G.jk ?_; intro _)))
        exact hK2 _ (by rw [decide_eq_false]; omega)
    · intro k19 hk19
      (repeat (first | refine G.add (by omega) ?_ | refine G.sub (by omega) ?_ | refine G.mul (by omega) ?_ | refine G.neg (by omega) ?_ | refine G.quo (by omega) (by omega) ?_ | refine G.rem (by omega) ?_ | refine G.shr (by omega) ?_ | refine G.conv (by omega) ?_ | refine G.step ?_ | refine G.buildA (by rfl) ?_ | (refine Gs.box ?_; intro _) | (refine Gs.alloc ?_; intro _) | refine Gs.store ?_ | refine G.retc ?_ | refine Gs.dr ?_ | refine G.qadd (by omega) ?_ | refine G.qsub (by omega) ?_ | refine G.qmul (by omega) ?_ | refine G.qneg (by omega) ?_ | refine G.qkp ?_ | refine Gs.qkb ?_ | refine G.withT ?_ | refine Gs.withb ?_ | refine G.ift ?_ | refine G.iff ?_ | refine G.gdtt ?_ | refine G.gdff ?_ | refine G.gdtf ?_ | refine G.gdft ?_ | (refine G.jk ?_; intro _)))
      (repeat' (first | refine Gs.withb ?_ | refine G.withT ?_ | (refine Gs.alloc ?_; intro _) | refine Gs.store ?_ | refine G.or2 ?_ ?_ | refine Gs.callv0 (solveL_ok g x s h1 hG1 hS) ?_ | refine Gs.callv0 (solveL_ok (tg g) (x.2, x.1) (ts s) h1 hGt1 hSt) ?_))
      all_goals exact hk19 _ _ ⟨_, _, _, rfl, rfl, by simp, by simp, by simp, fun it h => by simp [h]⟩
  · intro k7 hk7
    (repeat (first | refine G.add (by omega) ?_ | refine G.sub (by omega) ?_ | refine G.mul (by omega) ?_ | refine G.neg (by omega) ?_ | refine G.quo (by omega) (by omega) ?_ | refine G.rem (by omega) ?_ | refine G.shr (by omega) ?_ | refine G.conv (by omega) ?_ | refine G.step ?_ | refine G.buildA (by rfl) ?_ | (refine Gs.box ?_; intro _) | (refine Gs.alloc ?_; intro _) | refine Gs.store ?_ | refine G.retc ?_ | refine Gs.dr ?_ | refine G.qadd (by omega) ?_ | refine G.qsub (by omega) ?_ | refine G.qmul (by omega) ?_ | refine G.qneg (by omega) ?_ | refine G.qkp ?_ | refine Gs.qkb ?_ | refine G.withT ?_ | refine Gs.withb ?_ | refine G.ift ?_ | refine G.iff ?_ | refine G.gdtt ?_ | refine G.gdff ?_ | refine G.gdtf ?_ | refine G.gdft ?_ | (refine G.jk ?_; intro _)))
    (repeat' (first | refine Gs.withb ?_ | refine G.withT ?_ | (refine Gs.alloc ?_; intro _) | refine Gs.store ?_ | refine G.or2 ?_ ?_ | refine Gs.callv0 (turned_ok g x h1 hG1) ?_ | refine Gs.callv0 hsp ?_))
    all_goals exact hk7 _ _ ⟨_, _, _, rfl, rfl, by simp, by simp, by simp⟩
end Go.Proofs.Ytnepdmnkhjpnhaa
