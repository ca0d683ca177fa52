/-
  Lemmas for the proof of the statement of this claim: a part of the road, no statement of its own. Conditions: those that each lemma names.
-/
import Derived.Test.YtnepdmnkhjpnhaaKh
import Derived.Test.YtnepdmnkhjpnhaaKt
import Derived.Test.YtnepdmnkhjpnhaaVc
import Derived.Test.YtnepdmnkhjpnhaaKm
section
/-
  Loops: graphs made of numbers, with how many nodes they have.
-/
set_option linter.unusedVariables false
set_option linter.unusedSimpArgs false
set_option linter.unusedSectionVars false
set_option maxHeartbeats 8000000
namespace Go.Proofs.Ytnepdmnkhjpnhaa
open Go Go.Sk Go.Lp Go.RowKit
variable {M : Go.Sk.Mode}
theorem madeF_ok (l : List (UInt8 × UInt8)) (q : SlH) (n : UInt8) (loops : Bool) (h : Hp) (hq : RdE h (slv q) eB2 2 l) (hll : l.length ≤ 9223372036854775807) : Ct Try.prog 12 [slv q, .int .u8 n.toNat, .bool loops] h (fun h' v => ∃ (x : GrH) (g : Gr), v = vG x ∧ GrR h' x g ∧ MadeS g loops (min 20 l.length) ∧ (g.L.length : Int) = 1 + (n.toNat : Int) % 5) := by
  refine ct12 ?_
  intro w0
  unfold s12
  have hn := u8lt n
  (repeat (first | refine G.rem (by omega) ?_ | refine G.conv (by omega) ?_ | refine G.step ?_ | (refine Gs.alloc ?_; intro _)))
  rename_i rb
  rw [Int.tmod_eq_emod_of_nonneg hn.1]
  obtain ⟨nodes, hnodes, hn1, hn5⟩ : ∃ N : Nat, 1 + (n.toNat : Int) % 5 = N ∧ 1 ≤ N ∧ N ≤ 5 := ⟨(1 + (n.toNat : Int) % 5).toNat, by omega, by omega, by omega⟩
  rw [wrap_in (by omega), hnodes]
  refine G.jnk (fun a S' => ∃ (xb : Nat) (ql qr : SlH), a = ptr xb 0 ∧ S' = St w0 h h [.sl (slv ql) 49 1 (fl eSlH (List.replicate nodes (none, 0, 0))), .sl (slv qr) 49 1 (fl eSlH (List.replicate nodes (none, 0, 0))), .blk xb [slv ql, slv qr] 27, .blk rb [.slice none 0 0, .slice none 0 0] 27]) ?_ ?_
  · rintro _ _ ⟨xb, ql, qr, rfl, rfl⟩
    refine G.jk ?_; intro _
    refine Gs.litsNil (e := 3) (sz := 1) (enc := eInt) [_, _, _, _] (nodes + nodes) ?_
    have hrep : List.replicate (nodes + nodes) (((none, 0, 0), []) : SlH × List Int) = List.replicate nodes ((none, 0, 0), []) ++ List.replicate nodes ((none, 0, 0), []) := List.replicate_append_replicate.symm
    rw [hrep]
    have hmap : (List.replicate nodes (((none, 0, 0), []) : SlH × List Int)).map Prod.fst = List.replicate nodes (none, 0, 0) := by simp
    refine Gs.lp (β := Nat × List (SlH × List Int) × List (SlH × List Int)) (fun u => I u.1) (fun _ => h) (fun u => LMd xb rb ql qr u.2.1 u.2.2) (fun u => u.1 ≤ 20 ∧ u.1 ≤ l.length ∧ u.2.1.length = nodes ∧ u.2.2.length = nodes ∧ Acy nodes loops u.1 u.2.1 ∧ Acy nodes loops u.1 u.2.2) (fun u => 20 - u.1) (0, List.replicate nodes ((none, 0, 0), []), List.replicate nodes ((none, 0, 0), [])) rfl ⟨by simp, by simp, by simp, by simp, Acy.rep, Acy.rep⟩ (fun _ s => by dsimp only [LMd]; rw [hmap]; exact s) ?_
    rintro ⟨i, lL, lR⟩ ⟨hi, hil, eL, eR, aL, aR⟩ cont hc
    dsimp only at hi hil eL eR aL aR hc ⊢
    refine G.jk ?_; intro _
    refine G.jnP (fun j => j = .bool (decide (i < l.length ∧ i < 20))) ?_ ?_
    · rintro _ rfl
      refine G.jk ?_; intro _
      refine G.ifd ?_ ?_ <;> intro hgo
      · have hlt := hgo.1
        refine G.jnk (fun (_ : Unit) S' => ∃ lL' lR' : List (SlH × List Int), lL'.length = nodes ∧ lR'.length = nodes ∧ Acy nodes loops (i + 1) lL' ∧ Acy nodes loops (i + 1) lR' ∧ S' = St w0 h h (LMd xb rb ql qr lL' lR')) ?_ ?_
        · rintro _ _ ⟨lL', lR', b1, b2, b3, b4, rfl⟩
          refine G.jk ?_; intro _
          (repeat (refine G.add (by omega) ?_))
          exact Gs.go (t' := I ((i + 1 : Nat) : Int)) (hc (i + 1, lL', lR') ⟨by dsimp only; omega, by dsimp only; omega, b1, b2, b3, b4⟩ (by dsimp only; omega)) (by simp)
        · intro k8 hk8
          have hu1 := u8lt l[i].1
          have hu2 := u8lt l[i].2
          refine Gs.dr ?_
          refine Gs.qindexE hq hlt ?_
          intro b1 o1 hp1
          refine G.qkp ?_
          refine Gs.qloadP1 hp1 ?_
          refine G.qconv (by omega) ?_
          refine G.qremN (by omega) (by omega) ?_
          refine Gs.qindexE hq hlt ?_
          intro b2 o2 hp2
          refine G.qkp ?_
          refine Gs.qloadP1 hp2.field ?_
          refine G.qconv (by omega) ?_
          refine G.qremN (by omega) (by omega) ?_
          obtain ⟨fr, hfr, hfr2⟩ : ∃ k : Nat, (l[i].1.toNat : Int) % nodes = k ∧ k < nodes := by
            have e1 := Int.emod_nonneg (l[i].1.toNat : Int) (show (nodes : Int) ≠ 0 by omega)
            have e2 := Int.emod_lt_of_pos (l[i].1.toNat : Int) (show (0 : Int) < nodes by omega)
            exact ⟨((l[i].1.toNat : Int) % nodes).toNat, by omega, by omega⟩
          obtain ⟨to, hto, hto2⟩ : ∃ k : Nat, (l[i].2.toNat : Int) % nodes = k ∧ k < nodes := by
            have e1 := Int.emod_nonneg (l[i].2.toNat : Int) (show (nodes : Int) ≠ 0 by omega)
            have e2 := Int.emod_lt_of_pos (l[i].2.toNat : Int) (show (0 : Int) < nodes by omega)
            exact ⟨((l[i].2.toNat : Int) % nodes).toNat, by omega, by omega⟩
          rw [hfr, hto]
          refine G.jnP (fun j => j = .bool (decide (loops = false ∧ fr ≤ to))) ?_ ?_
          · rintro _ rfl
            refine G.jk ?_; intro _
            refine G.ifd ?_ ?_ <;> intro hskip
            · exact hk8 () _ ⟨lL, lR, eL, eR, aL.mono, aR.mono, rfl⟩
            · have hac : loops = false → (to : Int) < fr := fun e => by
                have : ¬ fr ≤ to := fun h => hskip ⟨e, h⟩
                omega
              refine Gs.indexE hq hlt ?_
              intro b3 o3 hp3
              refine G.step ?_
              refine Gs.loadP1 hp3 ?_
              refine G.quo8 (by omega) (by omega) ?_
              refine G.rem8 (by omega) (by omega) ?_
              (repeat (refine G.step ?_))
              refine G.ifd ?_ ?_ <;> intro hside
              · (repeat (first | refine Gs.dr ?_ | refine G.qkp ?_ | refine Gs.qkb ?_))
                have hfl : fr < (lL.map Prod.fst).length := by rw [List.length_map, eL]; exact hfr2
                have hflL : fr < lL.length := by omega
                have hall := (aL fr hflL).1
                refine Gs.qoindex (enc := eSlH) (v := slv ql) (l := lL.map Prod.fst) hfl ?_
                intro b4 o4 hp4
                refine Gs.qoloadE (v := slv ql) hp4 ?_
                rw [List.getElem_map]
                refine Gs.buildSlice (out := [I to]) (by decide) ?_
                intro eb
                refine Gs.withsl ?_
                (repeat (first | refine G.withT ?_ | refine Gs.withb ?_))
                refine Gs.litsOut (e := 3) (sz := 1) (enc := eInt) [_, _, _, _, _] (lL ++ lR) fr (by rw [List.length_append]; omega) ?_
                intro Rest hRest
                dsimp only [List.cons_append, List.nil_append]
                rw [List.getElem_append_left hflL]
                refine Gs.appendO (enc := eInt) (l := lL[fr].2) (m := [(to : Int)]) (e2 := 3) (by simp [fl]) (by simp; omega) (by simp; omega) ?_
                intro v'
                refine Gs.slH (v := v') ?_
                rintro q' rfl
                (repeat (first | refine G.withT ?_ | refine Gs.withb ?_))
                refine Gs.qsetE (enc := eSlH) (l := lL.map Prod.fst) (a := q') (i := fr) hfl ?_
                intro _
                refine Gs.sel (L' := .sl (slv ql) 49 1 (fl eSlH ((lL.map Prod.fst).set fr q')) :: .sl (slv qr) 49 1 (fl eSlH (lR.map Prod.fst)) :: .blk xb [slv ql, slv qr] 27 :: .blk rb [.slice none 0 0, .slice none 0 0] 27 :: .sl (slv q') 3 1 (fl eInt (lL[fr].2 ++ [(to : Int)])) :: Rest) ?_
                refine Gs.litsIn (i := fr) [_, _, _, _] hRest (q', lL[fr].2 ++ [(to : Int)]) ?_
                dsimp only [List.cons_append, List.nil_append]
                rw [List.set_append_left fr _ hflL, ← map_fst_set lL fr (q', lL[fr].2 ++ [(to : Int)])]
                exact hk8 () _ ⟨lL.set fr (q', lL[fr].2 ++ [(to : Int)]), lR, by rw [List.length_set]; exact eL, eR, aL.set hflL (by omega) (by omega) hac, aR.mono, rfl⟩
              · (repeat (first | refine Gs.dr ?_ | refine G.qkp ?_ | refine Gs.qkb ?_))
                have hfl : fr < (lR.map Prod.fst).length := by rw [List.length_map, eR]; exact hfr2
                have hflR : fr < lR.length := by omega
                have hall := (aR fr hflR).1
                refine Gs.qoindex (enc := eSlH) (v := slv qr) (l := lR.map Prod.fst) hfl ?_
                intro b4 o4 hp4
                refine Gs.qoloadE (v := slv qr) hp4 ?_
                rw [List.getElem_map]
                refine Gs.buildSlice (out := [I to]) (by decide) ?_
                intro eb
                refine Gs.withsl ?_
                (repeat (first | refine G.withT ?_ | refine Gs.withb ?_))
                refine Gs.litsOut (e := 3) (sz := 1) (enc := eInt) [_, _, _, _, _] (lL ++ lR) (nodes + fr) (by rw [List.length_append]; omega) ?_
                intro Rest hRest
                dsimp only [List.cons_append, List.nil_append]
                have hget : (lL ++ lR)[nodes + fr]'(by rw [List.length_append]; omega) = lR[fr] := by
                  rw [List.getElem_append_right (by omega)]
                  congr 1
                  omega
                rw [hget]
                refine Gs.appendO (enc := eInt) (l := lR[fr].2) (m := [(to : Int)]) (e2 := 3) (by simp [fl]) (by simp; omega) (by simp; omega) ?_
                intro v'
                refine Gs.slH (v := v') ?_
                rintro q' rfl
                (repeat (first | refine G.withT ?_ | refine Gs.withb ?_))
                refine Gs.qsetE (enc := eSlH) (l := lR.map Prod.fst) (a := q') (i := fr) hfl ?_
                intro _
                refine Gs.sel (L' := .sl (slv ql) 49 1 (fl eSlH (lL.map Prod.fst)) :: .sl (slv qr) 49 1 (fl eSlH ((lR.map Prod.fst).set fr q')) :: .blk xb [slv ql, slv qr] 27 :: .blk rb [.slice none 0 0, .slice none 0 0] 27 :: .sl (slv q') 3 1 (fl eInt (lR[fr].2 ++ [(to : Int)])) :: Rest) ?_
                refine Gs.litsIn (i := nodes + fr) [_, _, _, _] hRest (q', lR[fr].2 ++ [(to : Int)]) ?_
                dsimp only [List.cons_append, List.nil_append]
                have hset : (lL ++ lR).set (nodes + fr) (q', lR[fr].2 ++ [(to : Int)]) = lL ++ lR.set fr (q', lR[fr].2 ++ [(to : Int)]) := by
                  rw [List.set_append_right _ _ (by omega)]
                  congr 2
                  omega
                rw [hset, ← map_fst_set lR fr (q', lR[fr].2 ++ [(to : Int)])]
                exact hk8 () _ ⟨lL, lR.set fr (q', lR[fr].2 ++ [(to : Int)]), eL, by rw [List.length_set]; exact eR, aL.mono, aR.set hflR (by omega) (by omega) hac, rfl⟩
          · intro K2 hK2
            (repeat (refine G.step ?_))
            cases loops with
            | true =>
              (repeat (refine G.gdft ?_))
              exact hK2 _ (by rw [decide_eq_false]; exact fun h => by cases h.1)
            | false =>
              (repeat (first | refine G.step ?_ | refine G.gdtt ?_))
              refine hK2 _ ?_
              congr 1
              rw [decide_eq_decide]
              exact ⟨fun h => ⟨rfl, by omega⟩, fun h => by have := h.2; omega⟩
      · (repeat (first | refine G.step ?_ | refine Gs.store ?_ | refine G.retc ?_))
        refine Gs.litsFreeze (e := 3) (sz := 1) (enc := eInt) (by decide) [_, _, _, _] (lL ++ lR) ?_
        intro h2 le2 hall
        refine Gs.freezeE (enc := eSlH) (v := slv ql) (l := lL.map Prod.fst) (by decide) ?_
        intro h3 le3 f1
        refine Gs.freezeE (enc := eSlH) (v := slv qr) (l := lR.map Prod.fst) (by decide) ?_
        intro h4 le4 f2
        skip
        refine Gs.ret ⟨(ql, qr), ⟨lL.map Prod.snd, lR.map Prod.snd⟩, rfl, ⟨⟨lL.map Prod.fst, f1.mono le4, all2_map lL fun p hp => (hall p (List.mem_append_left _ hp)).mono (le3.trans le4)⟩, ⟨lR.map Prod.fst, f2, all2_map lR fun p hp => (hall p (List.mem_append_right _ hp)).mono (le3.trans le4)⟩⟩, ?_⟩
        refine ⟨⟨⟨by simp; omega, by simp; omega, by simp; omega, fun m hm => ?_, fun m hm => ?_⟩, by simp; omega, fun j hj => ?_, fun j hj => ?_⟩, by simp; omega⟩
        · obtain ⟨p, hp, rfl⟩ := List.mem_map.1 hm
          obtain ⟨j, hj, rfl⟩ := List.getElem_of_mem hp
          obtain ⟨c1, c2⟩ := aL j hj
          refine ⟨by omega, fun z hz => ?_⟩
          have := c2 z hz
          simp only [List.length_map]
          omega
        · obtain ⟨p, hp, rfl⟩ := List.mem_map.1 hm
          obtain ⟨j, hj, rfl⟩ := List.getElem_of_mem hp
          obtain ⟨c1, c2⟩ := aR j hj
          refine ⟨by omega, fun z hz => ?_⟩
          have := c2 z hz
          simp only [List.length_map]
          omega
        · simp only [List.length_map] at hj
          simp only [List.getElem_map]
          obtain ⟨c1, c2⟩ := aL j hj
          exact ⟨by omega, fun e m hm => (c2 m hm).2.2 e⟩
        · simp only [List.length_map] at hj
          simp only [List.getElem_map]
          obtain ⟨c1, c2⟩ := aR j hj
          exact ⟨by omega, fun e m hm => (c2 m hm).2.2 e⟩
    · intro K2 hK2
      refine Gs.lenE hq (by omega) ?_
      (repeat (refine G.step ?_))
      refine G.gddt ?_ ?_ <;> intro c1
      · (repeat (refine G.step ?_))
        refine hK2 _ ?_
        congr 1
        rw [decide_eq_decide]
        omega
      · exact hK2 _ (by rw [decide_eq_false]; omega)
  · intro k5 hk5
    have hz : eSlH (none, 0, 0) = [.slice none 0 0] := rfl
    refine Gs.dr ?_
    refine G.or2 ?_ ?_
    · refine Gs.make (enc := eSlH) (a0 := (none, 0, 0)) rfl (by omega) (by omega) (by omega) ?_
      intro v1; refine Gs.slH (v := v1) ?_; rintro q1 rfl; rw [Int.toNat_natCast]
      refine G.or2 ?_ ?_
      · refine Gs.make (enc := eSlH) (a0 := (none, 0, 0)) rfl (by omega) (by omega) (by omega) ?_
        intro v2; refine Gs.slH (v := v2) ?_; rintro q2 rfl; rw [Int.toNat_natCast]
        (repeat (first | (refine Gs.alloc ?_; intro _) | refine Gs.store ?_ | refine G.qkp ?_ | refine G.withT ?_))
        rename_i xb
        refine Gs.sel (L' := [.sl (slv q1) 49 1 (fl eSlH (List.replicate nodes (none, 0, 0))), .sl (slv q2) 49 1 (fl eSlH (List.replicate nodes (none, 0, 0))), .blk xb [slv q1, slv q2] 27, .blk rb [.slice none 0 0, .slice none 0 0] 27]) ?_
        exact hk5 _ _ ⟨xb, q1, q2, rfl, rfl⟩
      · (repeat (refine Gs.alloc ?_; intro _))
        rename_i xb
        refine Gs.make (enc := eSlH) (a0 := (none, 0, 0)) rfl (by omega) (by omega) (by omega) ?_
        intro v2; refine Gs.slH (v := v2) ?_; rintro q2 rfl; rw [Int.toNat_natCast]
        (repeat (first | refine Gs.store ?_ | refine G.qkp ?_))
        refine Gs.sel (L' := [.sl (slv q1) 49 1 (fl eSlH (List.replicate nodes (none, 0, 0))), .sl (slv q2) 49 1 (fl eSlH (List.replicate nodes (none, 0, 0))), .blk xb [slv q1, slv q2] 27, .blk rb [.slice none 0 0, .slice none 0 0] 27]) ?_
        exact hk5 _ _ ⟨xb, q1, q2, rfl, rfl⟩
    · refine G.or2 ?_ ?_
      · refine Gs.make (enc := eSlH) (a0 := (none, 0, 0)) rfl (by omega) (by omega) (by omega) ?_
        intro v1; refine Gs.slH (v := v1) ?_; rintro q1 rfl; rw [Int.toNat_natCast]
        refine G.or2 ?_ ?_
        · refine Gs.make (enc := eSlH) (a0 := (none, 0, 0)) rfl (by omega) (by omega) (by omega) ?_
          intro v2; refine Gs.slH (v := v2) ?_; rintro q2 rfl; rw [Int.toNat_natCast]
          (repeat (first | (refine Gs.alloc ?_; intro _) | refine Gs.store ?_ | refine G.qkp ?_ | refine G.withT ?_))
          rename_i xb
          refine Gs.sel (L' := [.sl (slv q2) 49 1 (fl eSlH (List.replicate nodes (none, 0, 0))), .sl (slv q1) 49 1 (fl eSlH (List.replicate nodes (none, 0, 0))), .blk xb [slv q2, slv q1] 27, .blk rb [.slice none 0 0, .slice none 0 0] 27]) ?_
          exact hk5 _ _ ⟨xb, q2, q1, rfl, rfl⟩
        · (repeat (refine Gs.alloc ?_; intro _))
          rename_i xb
          refine Gs.make (enc := eSlH) (a0 := (none, 0, 0)) rfl (by omega) (by omega) (by omega) ?_
          intro v2; refine Gs.slH (v := v2) ?_; rintro q2 rfl; rw [Int.toNat_natCast]
          (repeat (first | refine Gs.store ?_ | refine G.qkp ?_))
          refine Gs.sel (L' := [.sl (slv q2) 49 1 (fl eSlH (List.replicate nodes (none, 0, 0))), .sl (slv q1) 49 1 (fl eSlH (List.replicate nodes (none, 0, 0))), .blk xb [slv q2, slv q1] 27, .blk rb [.slice none 0 0, .slice none 0 0] 27]) ?_
          exact hk5 _ _ ⟨xb, q2, q1, rfl, rfl⟩
      · (repeat (refine Gs.alloc ?_; intro _))
        rename_i xb
        refine G.or2 ?_ ?_
        · refine Gs.make (enc := eSlH) (a0 := (none, 0, 0)) rfl (by omega) (by omega) (by omega) ?_
          intro v1; refine Gs.slH (v := v1) ?_; rintro q1 rfl; rw [Int.toNat_natCast]
          refine Gs.make (enc := eSlH) (a0 := (none, 0, 0)) rfl (by omega) (by omega) (by omega) ?_
          intro v2; refine Gs.slH (v := v2) ?_; rintro q2 rfl; rw [Int.toNat_natCast]
          (repeat (first | refine Gs.store ?_ | refine G.qkp ?_))
          refine Gs.sel (L' := [.sl (slv q1) 49 1 (fl eSlH (List.replicate nodes (none, 0, 0))), .sl (slv q2) 49 1 (fl eSlH (List.replicate nodes (none, 0, 0))), .blk xb [slv q1, slv q2] 27, .blk rb [.slice none 0 0, .slice none 0 0] 27]) ?_
          exact hk5 _ _ ⟨xb, q1, q2, rfl, rfl⟩
        · refine Gs.make (enc := eSlH) (a0 := (none, 0, 0)) rfl (by omega) (by omega) (by omega) ?_
          intro v1; refine Gs.slH (v := v1) ?_; rintro q1 rfl; rw [Int.toNat_natCast]
          refine Gs.make (enc := eSlH) (a0 := (none, 0, 0)) rfl (by omega) (by omega) (by omega) ?_
          intro v2; refine Gs.slH (v := v2) ?_; rintro q2 rfl; rw [Int.toNat_natCast]
          (repeat (first | refine Gs.store ?_ | refine G.qkp ?_))
          refine Gs.sel (L' := [.sl (slv q2) 49 1 (fl eSlH (List.replicate nodes (none, 0, 0))), .sl (slv q1) 49 1 (fl eSlH (List.replicate nodes (none, 0, 0))), .blk xb [slv q2, slv q1] 27, .blk rb [.slice none 0 0, .slice none 0 0] 27]) ?_
          exact hk5 _ _ ⟨xb, q2, q1, rfl, rfl⟩
end Go.Proofs.Ytnepdmnkhjpnhaa
end

section
/-
  Loops: the form of a node.
-/
set_option linter.unusedVariables false
set_option linter.unusedSimpArgs false
set_option linter.unusedSectionVars false
set_option maxHeartbeats 2000000
namespace Go.Proofs.Ytnepdmnkhjpnhaa
open Go Go.Sk Go.RowKit
open Go.Lp (Gr Sp GV opts stp mv Out)
open Go.Va (Fm sz leq add ff zero)
open Go.Lf (Acg oL oR fN fN_L fN_R oL_mem oR_mem wN sN)
variable {M : Go.Sk.Mode}
attribute [local irreducible] Go.Sk.vCall Go.Sk.Ct
theorem formG_ok {g : Gr} (hg : Acg g) : ∀ (N a : Nat), a < N → a < g.L.length → ∀ (h : Hp) (x : GrH), GrR h x g → Ct Try.prog 31 [vG x, I a] h (fun h' v => ∃ y : FmH, v = vF y ∧ FmR h' y (fN g a)) := by
  intro N
  induction N with
  | zero => intro a ha; omega
  | succ N ih =>
    intro a ha haL h x hx
    have hlr := hg.v.lr
    have hl1 := hg.v.l1
    have haR : a < g.R.length := by omega
    have hLlen := (hg.v.ol _ (List.getElem_mem haL)).1
    have hRlen := (hg.v.or _ (List.getElem_mem haR)).1
    have eL : oL g a = g.L[a] := by unfold Go.Lf.oL; rw [List.getElem?_eq_getElem haL]; rfl
    have eR : oR g a = g.R[a] := by unfold Go.Lf.oR; rw [List.getElem?_eq_getElem haR]; rfl
    have mL : ∀ m ∈ g.L[a], 0 ≤ m ∧ m.toNat < a := fun m hm => oL_mem hg (eL ▸ hm)
    have mR : ∀ m ∈ g.R[a], 0 ≤ m ∧ m.toNat < a := fun m hm => oR_mem hg (eR ▸ hm)
    refine ct31 ?_
    intro w0
    unfold s31
    (repeat (first | refine G.step ?_ | (refine Gs.box ?_; intro _) | (refine Gs.alloc ?_; intro _) | refine Gs.store ?_))
    rename_i xb rb fb
    refine Gs.nilsl 61 2 ?_
    refine Gs.lp (β := Nat × SlH × Hp × List FmH) (fun u => I u.1) (fun u => u.2.2.1) (fun u => [.sl (slv u.2.1) 61 2 (fl eFH u.2.2.2), .blk fb [slv u.2.1, .slice none 0 0] 61, .blk rb [.slice none 0 0, .slice none 0 0] 61, .blk xb [slv x.1, slv x.2] 27]) (fun u => u.1 ≤ g.L[a].length ∧ Hle h u.2.2.1 ∧ All2 (FmR u.2.2.1) u.2.2.2 ((g.L[a].take u.1).map fun m => fN g m.toNat)) (fun u => g.L[a].length - u.1) (0, (none, 0, 0), h, []) rfl ⟨Nat.zero_le _, Hle.refl h, by simp; exact .nil⟩ (fun _ s => s) ?_
    rintro ⟨i, q, hh, xs⟩ ⟨hi, hle, hxs⟩ cont hc
    dsimp only at hi hle hxs hc ⊢
    have hlen : xs.length = i := by rw [hxs.len]; simp; omega
    (repeat (first | refine G.step ?_ | (refine G.jk ?_; intro _)))
    refine Gs.indexF (hx.mono hle).l haL ?_
    intro b1 o1 x1 hp1 hx1
    refine Gs.loadP1 hp1 ?_
    refine Gs.lenE hx1 (by omega) ?_
    (repeat (refine G.step ?_))
    refine G.ifd ?_ ?_ <;> intro hlt
    · have hlt' : i < g.L[a].length := by omega
      have htake := List.take_succ_eq_append_getElem hlt'
      have hm := mL _ (List.getElem_mem hlt')
      (repeat (first | refine Gs.dr ?_ | refine G.qkp ?_ | refine Gs.qkb ?_))
      refine Gs.qindexF (hx.mono hle).l haL ?_
      intro b2 o2 x2 hp2 hx2
      refine Gs.qloadP1 hp2 ?_
      refine Gs.qindexE hx2 hlt' ?_
      intro b3 o3 hp3
      refine Gs.qloadP1 hp3 ?_
      rw [show g.L[a][i] = ((g.L[a][i].toNat : Nat) : Int) by omega]
      refine Gs.call0 (ih g.L[a][i].toNat (by omega) (by omega) hh x (hx.mono hle)) ?_
      rintro _ h2 le2 ⟨y, rfl, hy⟩
      (repeat (first | refine G.withT ?_ | refine Gs.withb ?_))
      refine Gs.buildSlice (out := eFH y) (by decide) ?_
      intro eb
      (repeat (first | refine G.withT ?_ | refine Gs.withb ?_))
      refine Gs.appendO (enc := eFH) (l := xs) (m := [y]) (e2 := 61) (by simp [fl]) (by simp; omega) (by simp; omega) ?_
      intro v'
      refine Gs.slH (v := v') ?_
      rintro q2 rfl
      (repeat (first | refine G.add (by omega) ?_ | refine Gs.store ?_ | refine G.qkp ?_))
      refine Gs.goS (hc (i + 1, q2, h2, xs ++ [y]) ⟨by dsimp only; omega, hle.trans le2, ?_⟩ (by dsimp only; omega)) (by simp)
      dsimp only
      rw [htake, List.map_append]
      exact (hxs.monoR le2).snoc hy
    · have hi' : i = g.L[a].length := by omega
      subst hi'
      rw [List.take_length] at hxs
      clear hc cont hlt hi
      refine Gs.freezeE (enc := eFH) (v := slv q) (by decide) ?_
      intro h1 le1 hfr
      have hle1 := hle.trans le1
      have hL : RdF h1 (slv q) eFH 2 FmR (fN g a).L := by rw [fN_L hg, eL]; exact ⟨xs, hfr, hxs.monoR le1⟩
      skip
      refine Gs.nilsl 61 2 ?_
      refine Gs.lp (β := Nat × SlH × Hp × List FmH) (fun u => I u.1) (fun u => u.2.2.1) (fun u => [.sl (slv u.2.1) 61 2 (fl eFH u.2.2.2), .blk fb [slv q, slv u.2.1] 61, .blk rb [.slice none 0 0, .slice none 0 0] 61, .blk xb [slv x.1, slv x.2] 27]) (fun u => u.1 ≤ g.R[a].length ∧ Hle h1 u.2.2.1 ∧ All2 (FmR u.2.2.1) u.2.2.2 ((g.R[a].take u.1).map fun m => fN g m.toNat)) (fun u => g.R[a].length - u.1) (0, (none, 0, 0), h1, []) rfl ⟨Nat.zero_le _, Hle.refl h1, by simp; exact .nil⟩ (fun _ s => s) ?_
      rintro ⟨i, q', hh, xs⟩ ⟨hi, hle, hxs⟩ cont hc
      dsimp only at hi hle hxs hc ⊢
      have hlen : xs.length = i := by rw [hxs.len]; simp; omega
      (repeat (first | refine G.step ?_ | (refine G.jk ?_; intro _)))
      refine Gs.indexF (hx.mono (hle1.trans hle)).r haR ?_
      intro b1 o1 x1 hp1 hx1
      refine Gs.loadP1 hp1 ?_
      refine Gs.lenE hx1 (by omega) ?_
      (repeat (refine G.step ?_))
      refine G.ifd ?_ ?_ <;> intro hlt
      · have hlt' : i < g.R[a].length := by omega
        have htake := List.take_succ_eq_append_getElem hlt'
        have hm := mR _ (List.getElem_mem hlt')
        (repeat (first | refine Gs.dr ?_ | refine G.qkp ?_ | refine Gs.qkb ?_))
        refine Gs.qindexF (hx.mono (hle1.trans hle)).r haR ?_
        intro b2 o2 x2 hp2 hx2
        refine Gs.qloadP1 hp2 ?_
        refine Gs.qindexE hx2 hlt' ?_
        intro b3 o3 hp3
        refine Gs.qloadP1 hp3 ?_
        rw [show g.R[a][i] = ((g.R[a][i].toNat : Nat) : Int) by omega]
        refine Gs.call0 (ih g.R[a][i].toNat (by omega) (by omega) hh x (hx.mono (hle1.trans hle))) ?_
        rintro _ h2 le2 ⟨y, rfl, hy⟩
        (repeat (first | refine G.withT ?_ | refine Gs.withb ?_))
        refine Gs.buildSlice (out := eFH y) (by decide) ?_
        intro eb
        (repeat (first | refine G.withT ?_ | refine Gs.withb ?_))
        refine Gs.appendO (enc := eFH) (l := xs) (m := [y]) (e2 := 61) (by simp [fl]) (by simp; omega) (by simp; omega) ?_
        intro v'
        refine Gs.slH (v := v') ?_
        rintro q2 rfl
        (repeat (first | refine G.add (by omega) ?_ | refine Gs.store ?_ | refine G.qkp ?_))
        refine Gs.goS (hc (i + 1, q2, h2, xs ++ [y]) ⟨by dsimp only; omega, hle.trans le2, ?_⟩ (by dsimp only; omega)) (by simp)
        dsimp only
        rw [htake, List.map_append]
        exact (hxs.monoR le2).snoc hy
      · have hi' : i = g.R[a].length := by omega
        subst hi'
        rw [List.take_length] at hxs
        refine Gs.freezeE (enc := eFH) (v := slv q') (by decide) ?_
        intro h2 le2 hfr2
        (repeat (first | refine G.step ?_ | refine Gs.store ?_ | refine G.retc ?_))
        refine Gs.ret ⟨(q, q'), rfl, FmR_iff.2 ⟨hL.mono (hle.trans le2), ?_⟩⟩
        rw [fN_R hg, eR]
        exact ⟨xs, hfr2, hxs.monoR le2⟩
end Go.Proofs.Ytnepdmnkhjpnhaa
end

section
/-
  Loops: the law LoopyForms, walked.
-/
set_option linter.unusedVariables false
set_option linter.unusedSimpArgs false
set_option linter.unusedSectionVars false
set_option maxHeartbeats 2000000
set_option maxRecDepth 100000
namespace Go.Proofs.Ytnepdmnkhjpnhaa
open Go Go.Sk Go.RowKit
open Go.Lp (Gr Sp GV opts stp mv Out SN left)
open Go.Va (Fm sz leq add ff zero)
open Go.Lf (Acg oL oR fN fN_L fN_R oL_mem oR_mem wN sN)
open Go.Dy (val)
variable {M : Go.Sk.Mode}
attribute [local irreducible] Go.Sk.vCall Go.Sk.Ct
/-- What has grown frozen may be forgotten. -/
theorem Gs.weak {w0 : World} {h0 h h' : Hp} {L : List Itm} {X : WP} (h00 : Hle h0 h) (hle : Hle h h') (hk : Gs w0 h0 h L X) : Gs w0 h0 h' L X := ⟨fun w s => hk.run w
  { below := s.below, up := h00, frozen := hle.trans s.frozen, apart := s.apart, drawn := s.drawn
    old := fun k hk => by
      have := s.old k hk
      cases hh : h0 k with
      | some o => exact h00 k o hh
      | none =>
        cases hq : h k with
        | none => rfl
        | some o => rw [hh, hle k o hq] at this; cases this
    items := fun it hi => ⟨(s.items it hi).1, fun b hb => ⟨((s.items it hi).2 b hb).1, by
      have := ((s.items it hi).2 b hb).2
      cases hh : h b with
      | none => rfl
      | some o => rw [hle b o hh] at this; cases this⟩⟩ }⟩
theorem acg_of {g : Gr} {n : Nat} (h : MadeS g false n) : Acg g := ⟨h.v, fun i hi m hm => (h.aL i hi).2 rfl m hm, fun i hi m hm => (h.aR i hi).2 rfl m hm⟩
theorem o8_of {g : Gr} {n : Nat} (h : MadeS g false n) (hn : n ≤ 8) (a : Nat) : (oL g a).length ≤ 8 ∧ (oR g a).length ≤ 8 := by
  unfold Go.Lf.oL Go.Lf.oR
  constructor
  · by_cases hl : a < g.L.length
    · rw [List.getElem?_eq_getElem hl]; have := (h.aL a hl).1; simp only [Option.getD_some]; omega
    · rw [List.getElem?_eq_none (by omega)]; simp
  · by_cases hl : a < g.R.length
    · rw [List.getElem?_eq_getElem hl]; have := (h.aR a hl).1; simp only [Option.getD_some]; omega
    · rw [List.getElem?_eq_none (by omega)]; simp
theorem half4 (N : Int) (h : -4 ≤ N ∧ N ≤ 4) : -2 ≤ N.tdiv 2 ∧ N.tdiv 2 ≤ 2 := by
  have h0 := Int.tmod_add_mul_tdiv N 2
  have h1 := Int.lt_tmod_of_pos N (show (0 : Int) < 2 by decide)
  have h2 := Int.tmod_lt_of_pos N (show (0 : Int) < 2 by decide)
  omega
theorem OfP.yesL {h : Hp} {n : Int} {e : Nat} {v : Value} (ho : OfP h n e v) (hs : sz (ff (val n e)) ≤ 2000) : ∃ y : FmH, v = .tuple #[vF y, I 0] ∧ FmR h y (ff (val n e)) := by
  rcases ho with ⟨_, h⟩ | ⟨h, _⟩
  · exact h
  · omega
theorem forms_ok (l : List (UInt8 × UInt8)) (q : SlH) (n a b c : UInt8) (h : Hp) (hq : RdE h (slv q) eB2 2 l) (hll : l.length ≤ 9223372036854775807) : Ct Try.prog 10 [slv q, .int .u8 n.toNat, .agg #[.int .u8 a.toNat, .int .u8 b.toNat, .int .u8 c.toNat]] h (fun _ v => v = .bool true) := by
  refine ct10 ?_
  intro w0
  unfold s10
  (repeat (refine Gs.box ?_; intro _))
  rename_i wb
  refine Gs.callv0 (sanity_ok h) ?_
  refine Gs.lenE hq hll ?_
  (repeat (refine G.step ?_))
  refine Gs.cutR (enc := eB2) (lo := none) (hi := some (min (l.length : Int) 8)) hq (by simp [cutLo, cutHi]) (by simp only [cutHi]; omega) (by intro i e; cases e) (by intro i e; cases e; omega) ?_
  intro v' hv'
  obtain ⟨q', rfl⟩ := hv'.hdr
  rw [show cutLo none = 0 from rfl, List.drop_zero, show cutHi (some (min (l.length : Int) 8)) l.length = min l.length 8 by simp only [cutHi]; omega] at hv'
  have hn := u8lt n
  refine G.rem8 (by omega) (by omega) ?_
  have e4 : (n.toNat : Int) % 4 = ((n % 4 : UInt8).toNat : Int) := by
    rw [UInt8.toNat_mod]; rfl
  rw [e4]
  refine Gs.call0 (madeF_ok (l.take (min l.length 8)) q' (n % 4) false h hv' (by rw [List.length_take]; omega)) ?_
  rintro _ h1 le1 ⟨x, g, rfl, hx, hm, hlen⟩
  have hg := acg_of hm
  have h8 := o8_of hm (by rw [List.length_take]; omega)
  have hL4 : g.L.length ≤ 4 := by
    have : ((n % 4 : UInt8).toNat : Int) % 5 ≤ 3 := by rw [← e4]; omega
    omega
  (repeat (first | refine G.step ?_ | (refine Gs.alloc ?_; intro _) | refine Gs.store ?_))
  refine Gs.call0 (spotL_ok g x a b c h1 hx hg.v) ?_
  rintro _ h2 le2 ⟨⟨sa, sn, sw⟩, rfl, hs⟩
  obtain ⟨s1, s2, s3, s4, s5⟩ := hs
  dsimp only at s1 s2 s3 s4 s5
  have hk := half4 sn ⟨s3, s4⟩
  replace hx := hx.mono le2
  (repeat (first | refine G.step ?_ | (refine Gs.alloc ?_; intro _) | refine Gs.store ?_))
  dsimp only
  (repeat (first | refine G.quo (by omega) (by omega) ?_ | refine G.step ?_ | refine Gs.store ?_))
  generalize sn.tdiv 2 = k at *
  have vd : Vd k 0 := ⟨by decide, .inl rfl, by omega, by omega⟩
  have ws := Go.Lf.wN_sz hk
  refine Gs.call0 (of_ok k 0 h2 vd) ?_
  rintro _ h3 le3 hOf
  obtain ⟨y, rfl, ry⟩ := hOf.yesL (show sz (wN k) ≤ 2000 by omega)
  replace hx := hx.mono le3
  have hgs := GS.of hm.v
  have hSN : SN g 16 (sa, k, sw) := ⟨s1, s2, by dsimp only; omega, by dsimp only; omega, s5⟩
  have hgv := gvB_iff.2 hm.v
  (repeat (first | refine G.step ?_ | (refine Gs.alloc ?_; intro _) | refine Gs.store ?_))
  refine Gs.callv0 (solveL_ok g x (sa, k, sw) h3 hx hgs) ?_
  rw [solv_of hgv hSN]
  (repeat (first | (refine Gs.alloc ?_; intro _) | refine Gs.store ?_))
  have h03 : Hle h h3 := le1.trans (le2.trans le3)
  refine G.jnP (fun j => j = .bool false) ?_ ?_
  · rintro _ rfl
    refine G.jk ?_; intro _
    refine G.iff ?_
    dsimp only
    refine G.jnP (fun j => j = I (left g (sa, k, sw))) ?_ ?_
    · rintro _ rfl
      refine G.jk ?_; intro _
      (repeat (first | refine G.step ?_ | refine G.gdby (by first | (simp; done) | omega) ?_))
      refine Gs.call0 (boundsL_ok g x 0 h3 hx hgs ⟨by decide, by decide⟩) ?_
      rintro _ h4 le4 ⟨b, hb, rfl⟩
      have hb0 : BdS g 0 (0, 0, 0) := .inr (.inr ⟨hgv, ⟨Int.le_refl 0, by have := hm.v.l0; omega⟩, Go.Lf.lo0 hg, Go.Lf.hi0 hg, rfl⟩)
      have := hb.uniq hb0
      subst this
      (repeat (first | refine G.step ?_ | refine G.gdtt ?_))
      exact Gs.ret rfl
    · intro k34 hk34
      obtain ⟨an, rfl⟩ : ∃ an : Nat, sa = an := ⟨sa.toNat, by omega⟩
      have hsz := Go.Lf.sum_sz hg h8 (a := an) (k := k) (by omega) hk
      have hl := Go.Lf.left_of hg (s := ((an : Int), k, sw)) s1 (by dsimp only; omega) s5
      (repeat (first | refine Gs.dr ?_ | refine G.qkp ?_ | refine Gs.qkb ?_))
      refine Gs.call0 (formG_ok hg (an + 1) an (by omega) (by omega) h3 x hx) ?_
      rintro _ h4 le4 ⟨z, rfl, rz⟩
      (repeat (first | refine G.withT ?_ | refine Gs.withb ?_))
      refine Gs.call0 (add_ok (sz (fN g an) + sz (wN k)) (fN g an) (wN k) (Nat.le_refl _) (by omega) h4 z y rz (ry.mono le4)) ?_
      rintro _ h5 le5 ⟨u, rfl, ru⟩
      (repeat (first | refine G.withT ?_ | refine Gs.withb ?_))
      refine Gs.callv0 (winner_ok (add (fN g an) (wN k)) u sw h5 ru (by omega)) ?_
      have hl2 : left g ((an : Int), k, sw) = if (if sw = 0 then (if leq (add (fN g an) (wN k)) Va.zero then (1 : Int) else 0) else (if leq Va.zero (add (fN g an) (wN k)) then 0 else 1)) = 1 then 3 else 1 := hl
      generalize (if sw = 0 then (if leq (add (fN g an) (wN k)) Va.zero then (1 : Int) else 0) else (if leq Va.zero (add (fN g an) (wN k)) then 0 else 1)) = r at *
      (repeat (refine G.qkp ?_))
      refine G.ifd ?_ ?_ <;> intro hr
      · exact Gs.weak h03 (le4.trans le5) (hk34 _ (by rw [hl2, if_pos hr]))
      · exact Gs.weak h03 (le4.trans le5) (hk34 _ (by rw [hl2, if_neg hr]))
  · intro k33 hk33
    have e1 : (wN k).L.length ≤ 1 := by rw [Go.Lf.wN_L (by omega)]; split <;> simp
    have e2 : (wN k).R.length ≤ 1 := by rw [Go.Lf.wN_R (by omega)]; split <;> simp
    have rl : RdF h3 (slv y.1) eFH 2 FmR (wN k).L := ry.l
    have rr : RdF h3 (slv y.2) eFH 2 FmR (wN k).R := ry.r
    (repeat (first | refine G.step ?_ | refine G.gdff ?_))
    refine Gs.lenF rl (by omega) ?_
    (repeat (refine G.step ?_))
    refine G.gdyf (by omega) ?_
    (repeat (refine G.step ?_))
    refine Gs.lenF rr (by omega) ?_
    (repeat (refine G.step ?_))
    refine hk33 _ ?_
    rw [decide_eq_false]
    omega
end Go.Proofs.Ytnepdmnkhjpnhaa
end

