/-
  Lemmas for the proof of the statement of this claim: a part of the road, no statement of its own. Conditions: those that each lemma names.
-/
import Derived.Test.YtlljhipmnkdpeaaGreatDoorKc
import Derived.Test.YtlljhipmnkdpeaaGreatDoorKm
section
set_option linter.unusedVariables false
set_option maxHeartbeats 4000000
namespace Go.Proofs.YtlljhipmnkdpeaaGreatDoor
open Go Go.Sk Go.Pr Go.RowKit
theorem leads_take (l : List Stp) (i : Nat) (hi : i < l.length) : leadsN (l.take (i + 1)) = leadsN (l.take i) ++ if leadB l[i].1 = true then [l[i].2] else [] := by
  rw [List.take_succ_eq_append_getElem hi, leadsN_snoc]
theorem Dirs_ok (l : List Stp) (v : Value) (h : Hp) (hr : RdE h v encP 2 l) (hl : l.length ≤ 100000) : Ct Tryz.prog 18 [v] h (fun h' r => RdE h' r eInt 1 (dirs l)) := by
  refine ct18 ?_
  intro w0
  unfold s18
  refine Gs.lenE hr (by omega) ?_
  refine Gs.nilsl 3 1 ?_
  refine Gs.lp (β := Nat × Value) (fun b => (b.2, I b.1)) (fun _ => h) (fun b => [.sl b.2 3 1 (fl eInt (leadsN (l.take b.1)))]) (fun b => b.1 ≤ l.length) (fun b => l.length - b.1) (0, .slice none 0 0) rfl (Nat.zero_le _) (fun _ h => h) ?_
  rintro ⟨i, ov⟩ hi cont hc
  dsimp only at *
  have hll := leadsN_len (l.take i)
  rw [List.length_take] at hll
  (repeat (first | refine G.add (by omega) ?_ | refine G.sub (by omega) ?_ | refine G.mul (by omega) ?_ | refine G.neg (by omega) ?_ | refine G.quo (by omega) (by omega) ?_ | refine G.rem (by omega) ?_ | refine G.shr (by omega) ?_ | refine G.conv (by omega) ?_ | refine G.step ?_ | refine G.buildA (by rfl) ?_ | (refine Gs.box ?_; intro _) | (refine Gs.alloc ?_; intro _) | refine Gs.store ?_ | refine G.retc ?_ | refine Gs.dr ?_ | refine G.qadd (by omega) ?_ | refine G.qsub (by omega) ?_ | refine G.qmul (by omega) ?_ | refine G.qneg (by omega) ?_ | refine G.qkp ?_ | refine Gs.qkb ?_ | refine G.withT ?_ | refine Gs.withb ?_ | refine G.ift ?_ | refine G.iff ?_ | refine G.gdtt ?_ | refine G.gdff ?_ | refine G.gdtf ?_ | refine G.gdft ?_ | (refine G.jk ?_; intro _)))
  refine G.ifd ?_ ?_ <;> intro hlt
  · have hlt' : i < l.length := by omega
    have hnext := leads_take l i hlt'
    refine G.jn ?_
    refine Gs.indexE hr hlt' ?_
    intro b o hp
    refine Gs.loadPN hp rfl ?_
    (repeat (first | refine G.add (by omega) ?_ | refine G.sub (by omega) ?_ | refine G.mul (by omega) ?_ | refine G.neg (by omega) ?_ | refine G.quo (by omega) (by omega) ?_ | refine G.rem (by omega) ?_ | refine G.shr (by omega) ?_ | refine G.conv (by omega) ?_ | refine G.step ?_ | refine G.buildA (by rfl) ?_ | (refine Gs.box ?_; intro _) | (refine Gs.alloc ?_; intro _) | refine Gs.store ?_ | refine G.retc ?_ | refine Gs.dr ?_ | refine G.qadd (by omega) ?_ | refine G.qsub (by omega) ?_ | refine G.qmul (by omega) ?_ | refine G.qneg (by omega) ?_ | refine G.qkp ?_ | refine Gs.qkb ?_ | refine G.withT ?_ | refine Gs.withb ?_ | refine G.ift ?_ | refine G.iff ?_ | refine G.gdtt ?_ | refine G.gdff ?_ | refine G.gdtf ?_ | refine G.gdft ?_ | (refine G.jk ?_; intro _)))
    refine Gs.callv0 (leads_ok l[i] h) ?_
    cases hb : leadB l[i].1
    · rw [hb, if_neg (by simp), List.append_nil] at hnext
      (repeat (first | refine G.add (by omega) ?_ | refine G.sub (by omega) ?_ | refine G.mul (by omega) ?_ | refine G.neg (by omega) ?_ | refine G.quo (by omega) (by omega) ?_ | refine G.rem (by omega) ?_ | refine G.shr (by omega) ?_ | refine G.conv (by omega) ?_ | refine G.step ?_ | refine G.buildA (by rfl) ?_ | (refine Gs.box ?_; intro _) | (refine Gs.alloc ?_; intro _) | refine Gs.store ?_ | refine G.retc ?_ | refine Gs.dr ?_ | refine G.qadd (by omega) ?_ | refine G.qsub (by omega) ?_ | refine G.qmul (by omega) ?_ | refine G.qneg (by omega) ?_ | refine G.qkp ?_ | refine Gs.qkb ?_ | refine G.withT ?_ | refine Gs.withb ?_ | refine G.ift ?_ | refine G.iff ?_ | refine G.gdtt ?_ | refine G.gdff ?_ | refine G.gdtf ?_ | refine G.gdft ?_ | (refine G.jk ?_; intro _)))
      refine Gs.goS (hc (i + 1, ov) (by dsimp only; omega) (by dsimp only; omega)) rfl (hs := ?_)
      dsimp only
      rw [hnext]
      infer_instance
    · rw [hb, if_pos rfl] at hnext
      (repeat (first | refine G.add (by omega) ?_ | refine G.sub (by omega) ?_ | refine G.mul (by omega) ?_ | refine G.neg (by omega) ?_ | refine G.quo (by omega) (by omega) ?_ | refine G.rem (by omega) ?_ | refine G.shr (by omega) ?_ | refine G.conv (by omega) ?_ | refine G.step ?_ | refine G.buildA (by rfl) ?_ | (refine Gs.box ?_; intro _) | (refine Gs.alloc ?_; intro _) | refine Gs.store ?_ | refine G.retc ?_ | refine Gs.dr ?_ | refine G.qadd (by omega) ?_ | refine G.qsub (by omega) ?_ | refine G.qmul (by omega) ?_ | refine G.qneg (by omega) ?_ | refine G.qkp ?_ | refine Gs.qkb ?_ | refine G.withT ?_ | refine Gs.withb ?_ | refine G.ift ?_ | refine G.iff ?_ | refine G.gdtt ?_ | refine G.gdff ?_ | refine G.gdtf ?_ | refine G.gdft ?_ | (refine G.jk ?_; intro _)))
      refine Gs.buildSlice (by decide) ?_
      intro b2
      refine Gs.appendO (enc := eInt) (l := leadsN (l.take i)) (m := [l[i].2]) (x := .slice (some ⟨b2, 0, none⟩) 1 1) (e2 := 3) (by simp [fl]) (by simp; omega) (by simp; omega) ?_
      intro v'
      (repeat (first | refine G.add (by omega) ?_ | refine G.sub (by omega) ?_ | refine G.mul (by omega) ?_ | refine G.neg (by omega) ?_ | refine G.quo (by omega) (by omega) ?_ | refine G.rem (by omega) ?_ | refine G.shr (by omega) ?_ | refine G.conv (by omega) ?_ | refine G.step ?_ | refine G.buildA (by rfl) ?_ | (refine Gs.box ?_; intro _) | (refine Gs.alloc ?_; intro _) | refine Gs.store ?_ | refine G.retc ?_ | refine Gs.dr ?_ | refine G.qadd (by omega) ?_ | refine G.qsub (by omega) ?_ | refine G.qmul (by omega) ?_ | refine G.qneg (by omega) ?_ | refine G.qkp ?_ | refine Gs.qkb ?_ | refine G.withT ?_ | refine Gs.withb ?_ | refine G.ift ?_ | refine G.iff ?_ | refine G.gdtt ?_ | refine G.gdff ?_ | refine G.gdtf ?_ | refine G.gdft ?_ | (refine G.jk ?_; intro _)))
      refine Gs.goS (hc (i + 1, v') (by dsimp only; omega) (by dsimp only; omega)) rfl (hs := ?_)
      dsimp only
      rw [hnext]
      infer_instance
  · have hil : i = l.length := by omega
    rw [hil, List.take_of_length_le (Nat.le_refl _)]
    have hll := leadsN_len l
    refine Gs.sortI (zs := leadsN l) (ws := sortI (leadsN l)) (by unfold sortI; simp) (by omega) (fun p cap w => Any.slices_Sort_int_none Tryz.lays189 p cap w) (fun blk off cap w hH hb => Any.slices_Sort_int Tryz.lays189 blk off cap (leadsN l) w hH hb (by omega)) ?_
    have hsl : (sortI (leadsN l)).length = (leadsN l).length := by unfold sortI; simp
    have hcl := Lib.compact_length_le (sortI (leadsN l))
    refine Gs.compactI (zs := sortI (leadsN l)) (ws := dirs l) (rest := List.replicate ((sortI (leadsN l)).length - (Lib.compact (sortI (leadsN l))).length) 0) (by unfold dirs; simp; omega) (by omega) (fun p cap w => Any.slices_Compact_int_empty Tryz.laysNm220 p cap w) (fun blk off cap w hH hcap => Any.slices_Compact_int Tryz.laysNm220 blk off cap (sortI (leadsN l)) w hH (by omega) hcap) ?_
    intro v'
    refine Gs.freezeE (v := v') (enc := eInt) (by decide) ?_
    intro h' hle hr'
    exact Gs.ret hr'
theorem rDirs_ok (l : List Stp) (v : Value) (h : Hp) (hr : RdE h v encP 2 l) (hl : l.length ≤ 100000) : Ct Tryz.prog 19 [v] h (fun h' r => RdE h' r eInt 1 (dirs l)) := by
  rw [← rdirs_eq]
  refine ct19 ?_
  intro w0
  unfold s19
  have hR0 : rdirs [] = [] := rfl
  have hfr : ∀ i, (rdirs (l.take i)).length ≤ l.length := fun i => by
    obtain ⟨_, _, h3⟩ := fold_facts (leadsN (l.take i)) [] List.Pairwise.nil
    have h4 := leadsN_len (l.take i)
    rw [List.length_take] at h4
    unfold rdirs
    simp at h3
    omega
  refine Gs.buildSlice (by decide) ?_
  intro b
  refine Gs.lp (β := Nat × Value) (fun b => (b.2, I b.1)) (fun _ => h) (fun b => [.sl b.2 3 1 (fl eInt (rdirs (l.take b.1)))]) (fun b => b.1 ≤ l.length) (fun b => l.length - b.1) (0, .slice (some ⟨b, 0, none⟩) 0 0) rfl (Nat.zero_le _) (fun _ h => h) ?_
  rintro ⟨i, ov⟩ hi cont hc
  dsimp only at *
  have hol := hfr i
  (repeat (first | refine G.add (by omega) ?_ | refine G.sub (by omega) ?_ | refine G.mul (by omega) ?_ | refine G.neg (by omega) ?_ | refine G.quo (by omega) (by omega) ?_ | refine G.rem (by omega) ?_ | refine G.shr (by omega) ?_ | refine G.conv (by omega) ?_ | refine G.step ?_ | refine G.buildA (by rfl) ?_ | (refine Gs.box ?_; intro _) | (refine Gs.alloc ?_; intro _) | refine Gs.store ?_ | refine G.retc ?_ | refine Gs.dr ?_ | refine G.qadd (by omega) ?_ | refine G.qsub (by omega) ?_ | refine G.qmul (by omega) ?_ | refine G.qneg (by omega) ?_ | refine G.qkp ?_ | refine Gs.qkb ?_ | refine G.withT ?_ | refine Gs.withb ?_ | refine G.ift ?_ | refine G.iff ?_ | refine G.gdtt ?_ | refine G.gdff ?_ | refine G.gdtf ?_ | refine G.gdft ?_ | (refine G.jk ?_; intro _)))
  refine Gs.lenE hr (by omega) ?_
  (repeat (first | refine G.add (by omega) ?_ | refine G.sub (by omega) ?_ | refine G.mul (by omega) ?_ | refine G.neg (by omega) ?_ | refine G.quo (by omega) (by omega) ?_ | refine G.rem (by omega) ?_ | refine G.shr (by omega) ?_ | refine G.conv (by omega) ?_ | refine G.step ?_ | refine G.buildA (by rfl) ?_ | (refine Gs.box ?_; intro _) | (refine Gs.alloc ?_; intro _) | refine Gs.store ?_ | refine G.retc ?_ | refine Gs.dr ?_ | refine G.qadd (by omega) ?_ | refine G.qsub (by omega) ?_ | refine G.qmul (by omega) ?_ | refine G.qneg (by omega) ?_ | refine G.qkp ?_ | refine Gs.qkb ?_ | refine G.withT ?_ | refine Gs.withb ?_ | refine G.ift ?_ | refine G.iff ?_ | refine G.gdtt ?_ | refine G.gdff ?_ | refine G.gdtf ?_ | refine G.gdft ?_ | (refine G.jk ?_; intro _)))
  refine G.ifd ?_ ?_ <;> intro hlt
  · have hlt' : i < l.length := by omega
    have hnext := leads_take l i hlt'
    have hrn : rdirs (l.take (i + 1)) = if leadB l[i].1 = true then insF l[i].2 (rdirs (l.take i)) else rdirs (l.take i) := by
      unfold rdirs
      rw [hnext]
      split
      · rw [List.foldl_append]; rfl
      · rw [List.append_nil]
    refine G.jn ?_
    refine Gs.indexE hr hlt' ?_
    intro b o hp
    refine Gs.loadPN hp rfl ?_
    refine Gs.callv0 (rleads_ok l[i] h) ?_
    cases hb : leadB l[i].1
    · rw [hb, if_neg (by simp)] at hrn
      (repeat (first | refine G.add (by omega) ?_ | refine G.sub (by omega) ?_ | refine G.mul (by omega) ?_ | refine G.neg (by omega) ?_ | refine G.quo (by omega) (by omega) ?_ | refine G.rem (by omega) ?_ | refine G.shr (by omega) ?_ | refine G.conv (by omega) ?_ | refine G.step ?_ | refine G.buildA (by rfl) ?_ | (refine Gs.box ?_; intro _) | (refine Gs.alloc ?_; intro _) | refine Gs.store ?_ | refine G.retc ?_ | refine Gs.dr ?_ | refine G.qadd (by omega) ?_ | refine G.qsub (by omega) ?_ | refine G.qmul (by omega) ?_ | refine G.qneg (by omega) ?_ | refine G.qkp ?_ | refine Gs.qkb ?_ | refine G.withT ?_ | refine Gs.withb ?_ | refine G.ift ?_ | refine G.iff ?_ | refine G.gdtt ?_ | refine G.gdff ?_ | refine G.gdtf ?_ | refine G.gdft ?_ | (refine G.jk ?_; intro _)))
      refine Gs.goS (hc (i + 1, ov) (by dsimp only; omega) (by dsimp only; omega)) rfl (hs := ?_)
      dsimp only
      rw [hrn]
      infer_instance
    · rw [hb, if_pos rfl] at hrn
      have hc := fun v' => hc (i + 1, v') (by dsimp only; omega) (by dsimp only; omega)
      dsimp only at hc
      rw [hrn] at hc
      clear hrn hnext
      generalize rdirs (l.take i) = out at *
      (repeat (first | refine G.add (by omega) ?_ | refine G.sub (by omega) ?_ | refine G.mul (by omega) ?_ | refine G.neg (by omega) ?_ | refine G.quo (by omega) (by omega) ?_ | refine G.rem (by omega) ?_ | refine G.shr (by omega) ?_ | refine G.conv (by omega) ?_ | refine G.step ?_ | refine G.buildA (by rfl) ?_ | (refine Gs.box ?_; intro _) | (refine Gs.alloc ?_; intro _) | refine Gs.store ?_ | refine G.retc ?_ | refine Gs.dr ?_ | refine G.qadd (by omega) ?_ | refine G.qsub (by omega) ?_ | refine G.qmul (by omega) ?_ | refine G.qneg (by omega) ?_ | refine G.qkp ?_ | refine Gs.qkb ?_ | refine G.withT ?_ | refine Gs.withb ?_ | refine G.ift ?_ | refine G.iff ?_ | refine G.gdtt ?_ | refine G.gdff ?_ | refine G.gdtf ?_ | refine G.gdft ?_ | (refine G.jk ?_; intro _)))
      refine Gs.qindexE hr hlt' ?_
      intro b1 o1 hp1
      (repeat (first | refine G.add (by omega) ?_ | refine G.sub (by omega) ?_ | refine G.mul (by omega) ?_ | refine G.neg (by omega) ?_ | refine G.quo (by omega) (by omega) ?_ | refine G.rem (by omega) ?_ | refine G.shr (by omega) ?_ | refine G.conv (by omega) ?_ | refine G.step ?_ | refine G.buildA (by rfl) ?_ | (refine Gs.box ?_; intro _) | (refine Gs.alloc ?_; intro _) | refine Gs.store ?_ | refine G.retc ?_ | refine Gs.dr ?_ | refine G.qadd (by omega) ?_ | refine G.qsub (by omega) ?_ | refine G.qmul (by omega) ?_ | refine G.qneg (by omega) ?_ | refine G.qkp ?_ | refine Gs.qkb ?_ | refine G.withT ?_ | refine Gs.withb ?_ | refine G.ift ?_ | refine G.iff ?_ | refine G.gdtt ?_ | refine G.gdff ?_ | refine G.gdtf ?_ | refine G.gdft ?_ | (refine G.jk ?_; intro _)))
      refine Gs.qloadP1 hp1.field ?_
      refine Gs.buildSlice (by decide) ?_
      intro b2
      refine Gs.withf (Hle.refl _) ?_
      (repeat (first | refine G.add (by omega) ?_ | refine G.sub (by omega) ?_ | refine G.mul (by omega) ?_ | refine G.neg (by omega) ?_ | refine G.quo (by omega) (by omega) ?_ | refine G.rem (by omega) ?_ | refine G.shr (by omega) ?_ | refine G.conv (by omega) ?_ | refine G.step ?_ | refine G.buildA (by rfl) ?_ | (refine Gs.box ?_; intro _) | (refine Gs.alloc ?_; intro _) | refine Gs.store ?_ | refine G.retc ?_ | refine Gs.dr ?_ | refine G.qadd (by omega) ?_ | refine G.qsub (by omega) ?_ | refine G.qmul (by omega) ?_ | refine G.qneg (by omega) ?_ | refine G.qkp ?_ | refine Gs.qkb ?_ | refine G.withT ?_ | refine Gs.withb ?_ | refine G.ift ?_ | refine G.iff ?_ | refine G.gdtt ?_ | refine G.gdff ?_ | refine G.gdtf ?_ | refine G.gdft ?_ | (refine G.jk ?_; intro _)))
      generalize l[i].2 = n at *
      refine Gs.lp (β := Nat × Bool × List Int × Value) (fun b => (b.2.2.2, .bool b.2.1, I b.1)) (fun _ => h) (fun b => [.sl b.2.2.2 3 1 (fl eInt b.2.2.1), .sl ov 3 1 (fl eInt out)]) (fun b => b.1 ≤ out.length ∧ ((b.2.1 = false → b.2.2.1.length ≤ b.1) ∧ b.2.2.1.length ≤ b.1 + 1) ∧ (if b.2.1 = true then b.2.2.1 ++ out.drop b.1 = insF n out else b.2.2.1 ++ insF n (out.drop b.1) = insF n out)) (fun b => out.length - b.1) (0, false, [], .slice (some ⟨b2, 0, none⟩) 0 0) rfl ⟨Nat.zero_le _, by simp, by simp⟩ (fun w hw => hw) ?_
      rintro ⟨k, done, next, nv⟩ ⟨hk, ⟨hnf, hnl⟩, hinv⟩ cont2 hc2
      dsimp only at *
      (repeat (first | refine G.add (by omega) ?_ | refine G.sub (by omega) ?_ | refine G.mul (by omega) ?_ | refine G.neg (by omega) ?_ | refine G.quo (by omega) (by omega) ?_ | refine G.rem (by omega) ?_ | refine G.shr (by omega) ?_ | refine G.conv (by omega) ?_ | refine G.step ?_ | refine G.buildA (by rfl) ?_ | (refine Gs.box ?_; intro _) | (refine Gs.alloc ?_; intro _) | refine Gs.store ?_ | refine G.retc ?_ | refine Gs.dr ?_ | refine G.qadd (by omega) ?_ | refine G.qsub (by omega) ?_ | refine G.qmul (by omega) ?_ | refine G.qneg (by omega) ?_ | refine G.qkp ?_ | refine Gs.qkb ?_ | refine G.withT ?_ | refine Gs.withb ?_ | refine G.ift ?_ | refine G.iff ?_ | refine G.gdtt ?_ | refine G.gdff ?_ | refine G.gdtf ?_ | refine G.gdft ?_ | (refine G.jk ?_; intro _)))
      refine Gs.olen (l := out) (enc := eInt) (by omega) ?_
      (repeat (first | refine G.add (by omega) ?_ | refine G.sub (by omega) ?_ | refine G.mul (by omega) ?_ | refine G.neg (by omega) ?_ | refine G.quo (by omega) (by omega) ?_ | refine G.rem (by omega) ?_ | refine G.shr (by omega) ?_ | refine G.conv (by omega) ?_ | refine G.step ?_ | refine G.buildA (by rfl) ?_ | (refine Gs.box ?_; intro _) | (refine Gs.alloc ?_; intro _) | refine Gs.store ?_ | refine G.retc ?_ | refine Gs.dr ?_ | refine G.qadd (by omega) ?_ | refine G.qsub (by omega) ?_ | refine G.qmul (by omega) ?_ | refine G.qneg (by omega) ?_ | refine G.qkp ?_ | refine Gs.qkb ?_ | refine G.withT ?_ | refine Gs.withb ?_ | refine G.ift ?_ | refine G.iff ?_ | refine G.gdtt ?_ | refine G.gdff ?_ | refine G.gdtf ?_ | refine G.gdft ?_ | (refine G.jk ?_; intro _)))
      refine G.ifd ?_ ?_ <;> intro hlt2
      · have hlk : k < out.length := by omega
        have hdk : out.drop k = out[k] :: out.drop (k + 1) := List.drop_eq_getElem_cons hlk
        have hst : ∀ (nv2 : Value) (next2 : List Int) (done2 : Bool), ((done2 = false → next2.length ≤ k) ∧ next2.length ≤ k + 1) → (if done2 = true then next2 ++ out[k] :: out.drop (k + 1) = insF n out else next2 ++ out[k] :: insF n (out.drop (k + 1)) = insF n out) →
            Gs w0 h h [.sl nv2 3 1 (fl eInt next2), .sl ov 3 1 (fl eInt out)] (Do Tryz.prog (V (Instr.indexAt 33 ov (I k))) fun t20 => Do Tryz.prog (V (Instr.loadAt 3 t20)) fun t21 => Do Tryz.prog (vBuildSlice 33 1 [(0, t21)]) fun t22 => Do Tryz.prog (vBuiltin .append #[33, 33] 33 [nv2, t22]) fun t23 => Do Tryz.prog (V (binOp .add 3 (I k) (I 1))) fun t24 => cont2 (t23, .bool done2, t24)) := by
          intro nv2 next2 done2 hn2 hi2
          refine Gs.oindex (l := out) (enc := eInt) hlk ?_
          intro bb oo hpp
          refine Gs.oload1 hpp ?_
          refine Gs.buildSlice (by decide) ?_
          intro b5
          refine Gs.appendO (enc := eInt) (l := next2) (m := [out[k]]) (x := .slice (some ⟨b5, 0, none⟩) 1 1) (e2 := 3) (by simp [fl]) (by simp; omega) (by simp; omega) ?_
          intro v'
          (repeat (first | refine G.add (by omega) ?_ | refine G.sub (by omega) ?_ | refine G.mul (by omega) ?_ | refine G.neg (by omega) ?_ | refine G.quo (by omega) (by omega) ?_ | refine G.rem (by omega) ?_ | refine G.shr (by omega) ?_ | refine G.conv (by omega) ?_ | refine G.step ?_ | refine G.buildA (by rfl) ?_ | (refine Gs.box ?_; intro _) | (refine Gs.alloc ?_; intro _) | refine Gs.store ?_ | refine G.retc ?_ | refine Gs.dr ?_ | refine G.qadd (by omega) ?_ | refine G.qsub (by omega) ?_ | refine G.qmul (by omega) ?_ | refine G.qneg (by omega) ?_ | refine G.qkp ?_ | refine Gs.qkb ?_ | refine G.withT ?_ | refine Gs.withb ?_ | refine G.ift ?_ | refine G.iff ?_ | refine G.gdtt ?_ | refine G.gdff ?_ | refine G.gdtf ?_ | refine G.gdft ?_ | (refine G.jk ?_; intro _)))
          refine Gs.goS (hc2 (k + 1, done2, next2 ++ [out[k]], v') ⟨by dsimp only; omega, ⟨fun hd => by have := hn2.1 hd; simp; omega, by have := hn2.2; simp; omega⟩, ?_⟩ (by dsimp only; omega)) rfl
          dsimp only
          cases done2
          · simp only [Bool.false_eq_true, if_false, List.append_assoc, List.cons_append, List.nil_append] at *
            exact hi2
          · simp only [if_true, List.append_assoc, List.cons_append, List.nil_append] at *
            exact hi2
        have hins : insF n (out[k] :: out.drop (k + 1)) = if n < out[k] then n :: out[k] :: out.drop (k + 1) else if n = out[k] then out[k] :: out.drop (k + 1) else out[k] :: insF n (out.drop (k + 1)) := by
          conv => lhs; unfold insF
        rw [hdk, hins] at hinv
        clear hc2 hc hdk hins
        refine G.jn ?_
        refine G.jnP (fun a => a = .bool (decide (done = false ∧ n < out[k]))) ?_ ?_
        · rintro a rfl
          refine G.jk ?_
          intro _
          refine G.ifd ?_ ?_ <;> intro hcase
          · obtain ⟨rfl, hnk⟩ := hcase
            rw [if_neg (by simp), if_pos hnk] at hinv
            refine Gs.buildSlice (by decide) ?_
            intro b6
            refine Gs.appendO (enc := eInt) (l := next) (m := [n]) (x := .slice (some ⟨b6, 0, none⟩) 1 1) (e2 := 3) (by simp [fl]) (by simp; omega) (by simp; omega) ?_
            intro v'
            refine G.jk ?_
            intro _
            refine G.jn ?_
            refine G.gdff ?_
            refine Gs.oindex (l := out) (enc := eInt) hlk ?_
            intro bb oo hpp
            refine Gs.oload1 hpp ?_
            (repeat (first | refine G.add (by omega) ?_ | refine G.sub (by omega) ?_ | refine G.mul (by omega) ?_ | refine G.neg (by omega) ?_ | refine G.quo (by omega) (by omega) ?_ | refine G.rem (by omega) ?_ | refine G.shr (by omega) ?_ | refine G.conv (by omega) ?_ | refine G.step ?_ | refine G.buildA (by rfl) ?_ | (refine Gs.box ?_; intro _) | (refine Gs.alloc ?_; intro _) | refine Gs.store ?_ | refine G.retc ?_ | refine Gs.dr ?_ | refine G.qadd (by omega) ?_ | refine G.qsub (by omega) ?_ | refine G.qmul (by omega) ?_ | refine G.qneg (by omega) ?_ | refine G.qkp ?_ | refine Gs.qkb ?_ | refine G.withT ?_ | refine Gs.withb ?_ | refine G.ift ?_ | refine G.iff ?_ | refine G.gdtt ?_ | refine G.gdff ?_ | refine G.gdtf ?_ | refine G.gdft ?_ | (refine G.jk ?_; intro _)))
            rw [decide_eq_true (show n ≤ out[k] by omega)]
            have hfin := hst v' (next ++ [n]) true ⟨fun hh => (by cases hh), by have := hnf rfl; simp; omega⟩ (by rw [if_pos rfl, List.append_assoc]; exact hinv)
            exact Gs.sel hfin
          · refine G.jk ?_
            intro _
            refine G.jn ?_
            cases done
            · have hnk : ¬ n < out[k] := fun hh => hcase ⟨rfl, hh⟩
              rw [if_neg (by simp), if_neg hnk] at hinv
              refine G.gdff ?_
              refine Gs.oindex (l := out) (enc := eInt) hlk ?_
              intro bb oo hpp
              refine Gs.oload1 hpp ?_
              (repeat (first | refine G.add (by omega) ?_ | refine G.sub (by omega) ?_ | refine G.mul (by omega) ?_ | refine G.neg (by omega) ?_ | refine G.quo (by omega) (by omega) ?_ | refine G.rem (by omega) ?_ | refine G.shr (by omega) ?_ | refine G.conv (by omega) ?_ | refine G.step ?_ | refine G.buildA (by rfl) ?_ | (refine Gs.box ?_; intro _) | (refine Gs.alloc ?_; intro _) | refine Gs.store ?_ | refine G.retc ?_ | refine Gs.dr ?_ | refine G.qadd (by omega) ?_ | refine G.qsub (by omega) ?_ | refine G.qmul (by omega) ?_ | refine G.qneg (by omega) ?_ | refine G.qkp ?_ | refine Gs.qkb ?_ | refine G.withT ?_ | refine Gs.withb ?_ | refine G.ift ?_ | refine G.iff ?_ | refine G.gdtt ?_ | refine G.gdff ?_ | refine G.gdtf ?_ | refine G.gdft ?_ | (refine G.jk ?_; intro _)))
              by_cases he : n = out[k]
              · rw [if_pos he] at hinv
                rw [decide_eq_true (show n ≤ out[k] by omega)]
                exact hst nv next true ⟨fun hh => (by cases hh), hnl⟩ (by rw [if_pos rfl]; exact hinv)
              · rw [if_neg he] at hinv
                rw [decide_eq_false (show ¬ n ≤ out[k] by omega)]
                exact hst nv next false ⟨fun _ => hnf rfl, hnl⟩ (by rw [if_neg (by simp)]; exact hinv)
            · rw [if_pos rfl] at hinv
              refine G.gdtf ?_
              refine G.jk ?_
              intro _
              exact hst nv next true ⟨fun hh => (by cases hh), hnl⟩ (by rw [if_pos rfl]; exact hinv)
        · intro K hK
          cases done
          · (repeat (first | refine G.add (by omega) ?_ | refine G.sub (by omega) ?_ | refine G.mul (by omega) ?_ | refine G.neg (by omega) ?_ | refine G.quo (by omega) (by omega) ?_ | refine G.rem (by omega) ?_ | refine G.shr (by omega) ?_ | refine G.conv (by omega) ?_ | refine G.step ?_ | refine G.buildA (by rfl) ?_ | (refine Gs.box ?_; intro _) | (refine Gs.alloc ?_; intro _) | refine Gs.store ?_ | refine G.retc ?_ | refine Gs.dr ?_ | refine G.qadd (by omega) ?_ | refine G.qsub (by omega) ?_ | refine G.qmul (by omega) ?_ | refine G.qneg (by omega) ?_ | refine G.qkp ?_ | refine Gs.qkb ?_ | refine G.withT ?_ | refine Gs.withb ?_ | refine G.ift ?_ | refine G.iff ?_ | refine G.gdtt ?_ | refine G.gdff ?_ | refine G.gdtf ?_ | refine G.gdft ?_ | (refine G.jk ?_; intro _)))
            refine Gs.oindex (l := out) (enc := eInt) hlk ?_
            intro bb oo hpp
            refine Gs.oload1 hpp ?_
            (repeat (first | refine G.add (by omega) ?_ | refine G.sub (by omega) ?_ | refine G.mul (by omega) ?_ | refine G.neg (by omega) ?_ | refine G.quo (by omega) (by omega) ?_ | refine G.rem (by omega) ?_ | refine G.shr (by omega) ?_ | refine G.conv (by omega) ?_ | refine G.step ?_ | refine G.buildA (by rfl) ?_ | (refine Gs.box ?_; intro _) | (refine Gs.alloc ?_; intro _) | refine Gs.store ?_ | refine G.retc ?_ | refine Gs.dr ?_ | refine G.qadd (by omega) ?_ | refine G.qsub (by omega) ?_ | refine G.qmul (by omega) ?_ | refine G.qneg (by omega) ?_ | refine G.qkp ?_ | refine Gs.qkb ?_ | refine G.withT ?_ | refine Gs.withb ?_ | refine G.ift ?_ | refine G.iff ?_ | refine G.gdtt ?_ | refine G.gdff ?_ | refine G.gdtf ?_ | refine G.gdft ?_ | (refine G.jk ?_; intro _)))
            exact hK _ (by congr 1; rw [decide_eq_decide]; simp)
          · (repeat (first | refine G.add (by omega) ?_ | refine G.sub (by omega) ?_ | refine G.mul (by omega) ?_ | refine G.neg (by omega) ?_ | refine G.quo (by omega) (by omega) ?_ | refine G.rem (by omega) ?_ | refine G.shr (by omega) ?_ | refine G.conv (by omega) ?_ | refine G.step ?_ | refine G.buildA (by rfl) ?_ | (refine Gs.box ?_; intro _) | (refine Gs.alloc ?_; intro _) | refine Gs.store ?_ | refine G.retc ?_ | refine Gs.dr ?_ | refine G.qadd (by omega) ?_ | refine G.qsub (by omega) ?_ | refine G.qmul (by omega) ?_ | refine G.qneg (by omega) ?_ | refine G.qkp ?_ | refine Gs.qkb ?_ | refine G.withT ?_ | refine Gs.withb ?_ | refine G.ift ?_ | refine G.iff ?_ | refine G.gdtt ?_ | refine G.gdff ?_ | refine G.gdtf ?_ | refine G.gdft ?_ | (refine G.jk ?_; intro _)))
            exact hK _ (by congr 1)
      · have hkl : k = out.length := by omega
        rw [hkl, List.drop_eq_nil_of_le (Nat.le_refl _)] at hinv
        cases done
        · rw [if_neg (by simp)] at hinv
          (repeat (first | refine G.add (by omega) ?_ | refine G.sub (by omega) ?_ | refine G.mul (by omega) ?_ | refine G.neg (by omega) ?_ | refine G.quo (by omega) (by omega) ?_ | refine G.rem (by omega) ?_ | refine G.shr (by omega) ?_ | refine G.conv (by omega) ?_ | refine G.step ?_ | refine G.buildA (by rfl) ?_ | (refine Gs.box ?_; intro _) | (refine Gs.alloc ?_; intro _) | refine Gs.store ?_ | refine G.retc ?_ | refine Gs.dr ?_ | refine G.qadd (by omega) ?_ | refine G.qsub (by omega) ?_ | refine G.qmul (by omega) ?_ | refine G.qneg (by omega) ?_ | refine G.qkp ?_ | refine Gs.qkb ?_ | refine G.withT ?_ | refine Gs.withb ?_ | refine G.ift ?_ | refine G.iff ?_ | refine G.gdtt ?_ | refine G.gdff ?_ | refine G.gdtf ?_ | refine G.gdft ?_ | (refine G.jk ?_; intro _)))
          refine Gs.buildSlice (by decide) ?_
          intro b5
          refine Gs.appendO (enc := eInt) (l := next) (m := [n]) (x := .slice (some ⟨b5, 0, none⟩) 1 1) (e2 := 3) (by simp [fl]) (by simp; omega) (by simp; omega) ?_
          intro v'
          (repeat (first | refine G.add (by omega) ?_ | refine G.sub (by omega) ?_ | refine G.mul (by omega) ?_ | refine G.neg (by omega) ?_ | refine G.quo (by omega) (by omega) ?_ | refine G.rem (by omega) ?_ | refine G.shr (by omega) ?_ | refine G.conv (by omega) ?_ | refine G.step ?_ | refine G.buildA (by rfl) ?_ | (refine Gs.box ?_; intro _) | (refine Gs.alloc ?_; intro _) | refine Gs.store ?_ | refine G.retc ?_ | refine Gs.dr ?_ | refine G.qadd (by omega) ?_ | refine G.qsub (by omega) ?_ | refine G.qmul (by omega) ?_ | refine G.qneg (by omega) ?_ | refine G.qkp ?_ | refine Gs.qkb ?_ | refine G.withT ?_ | refine Gs.withb ?_ | refine G.ift ?_ | refine G.iff ?_ | refine G.gdtt ?_ | refine G.gdff ?_ | refine G.gdtf ?_ | refine G.gdft ?_ | (refine G.jk ?_; intro _)))
          refine Gs.goS (hc v') rfl (hs := ?_)
          rw [← hinv]
          unfold insF
          infer_instance
        · rw [if_pos rfl, List.append_nil] at hinv
          (repeat (first | refine G.add (by omega) ?_ | refine G.sub (by omega) ?_ | refine G.mul (by omega) ?_ | refine G.neg (by omega) ?_ | refine G.quo (by omega) (by omega) ?_ | refine G.rem (by omega) ?_ | refine G.shr (by omega) ?_ | refine G.conv (by omega) ?_ | refine G.step ?_ | refine G.buildA (by rfl) ?_ | (refine Gs.box ?_; intro _) | (refine Gs.alloc ?_; intro _) | refine Gs.store ?_ | refine G.retc ?_ | refine Gs.dr ?_ | refine G.qadd (by omega) ?_ | refine G.qsub (by omega) ?_ | refine G.qmul (by omega) ?_ | refine G.qneg (by omega) ?_ | refine G.qkp ?_ | refine Gs.qkb ?_ | refine G.withT ?_ | refine Gs.withb ?_ | refine G.ift ?_ | refine G.iff ?_ | refine G.gdtt ?_ | refine G.gdff ?_ | refine G.gdtf ?_ | refine G.gdft ?_ | (refine G.jk ?_; intro _)))
          refine Gs.goS (hc nv) rfl (hs := ?_)
          rw [← hinv]
          infer_instance
  · have hil : i = l.length := by omega
    rw [hil, List.take_of_length_le (Nat.le_refl _)]
    refine Gs.freezeE (v := ov) (enc := eInt) (by decide) ?_
    intro h' hle hr'
    exact Gs.ret hr'
end Go.Proofs.YtlljhipmnkdpeaaGreatDoor
end

section
set_option linter.unusedVariables false
set_option maxHeartbeats 4000000
namespace Go.Proofs.YtlljhipmnkdpeaaGreatDoor
open Go Go.Sk Go.Pr Go.RowKit
/-- Bytes as elements, by their numbers. -/
abbrev eU : Int → List Value := fun n => [.int .u8 n]
instance : Enc eU 1 := ⟨fun _ => rfl, fun a v h => by simp only [eU, List.mem_singleton] at h; subst h; rfl⟩
/-- Slices as elements. -/
abbrev eSl : Option Addr × Nat × Nat → List Value := fun x => [.slice x.1 x.2.1 x.2.2]
instance : Enc eSl 1 := ⟨fun _ => rfl, fun a v h => by simp only [eSl, List.mem_singleton] at h; subst h; rfl⟩
def atU (l : List Int) (i : Nat) : Int := l.getD i 0
def libT (d e k r : Int) : List (List Stp) := [[(1, d), (3, 0)], [(1, d), (4, 0), (6, 0)], [(2, d)], [(2, d), (4, 0), (6, 0)], [(1, d), (4, 0), (6, 0), (1, d)], [(1, d), (1, e)], [(1, d), (7, d)], [(1, d), (3, 0), (8, k)], [(9, r), (1, d), (1, d), (10, r)], [(1, d), (5, 0), (1, d), (3, 0)], [(10, r), (1, d)], [(1, d), (4, 0), (6, 0), (1, (d + 4) % 8)], [(1, d), (4, 0), (6, 0), (1, e), (4, 0), (6, 0)], [(2, d), (5, 0), (1, d)], [(1, d), (4, 0), (6, 0), (8, k)], [(1, d), (7, d), (1, e)]]
def lib (l : List Int) : List Stp := (libT (atU l 1 % 8) (atU l 2 % 8) (atU l 3 % 6) (atU l 4 % 4)).getD (atU l 0 % 16).toNat []
theorem at_ok (l : List Int) (v : Value) (i : Nat) (h : Hp) (hr : RdE h v eU 1 l) (hb : ∀ n ∈ l, 0 ≤ n ∧ n ≤ 255) (hl : l.length ≤ 9223372036854775807) : Ct Tryz.prog 28 [v, I i] h (fun _ x => x = I (atU l i)) := by
  refine ct28 ?_
  intro w0
  unfold s28
  refine Gs.lenE hr (by omega) ?_
  (repeat (first | refine G.add (by omega) ?_ | refine G.sub (by omega) ?_ | refine G.mul (by omega) ?_ | refine G.neg (by omega) ?_ | refine G.quo (by omega) (by omega) ?_ | refine G.rem (by omega) ?_ | refine G.shr (by omega) ?_ | refine G.conv (by omega) ?_ | refine G.step ?_ | refine G.buildA (by rfl) ?_ | (refine Gs.box ?_; intro _) | (refine Gs.alloc ?_; intro _) | refine Gs.store ?_ | refine G.retc ?_ | refine Gs.dr ?_ | refine G.qadd (by omega) ?_ | refine G.qsub (by omega) ?_ | refine G.qmul (by omega) ?_ | refine G.qneg (by omega) ?_ | refine G.qkp ?_ | refine Gs.qkb ?_ | refine G.withT ?_ | refine Gs.withb ?_ | refine G.ift ?_ | refine G.iff ?_ | refine G.gdtt ?_ | refine G.gdff ?_ | refine G.gdtf ?_ | refine G.gdft ?_ | (refine G.jk ?_; intro _)))
  refine G.ifd ?_ ?_ <;> intro hlt
  · have hlt' : i < l.length := by omega
    have h1 := hb _ (List.getElem_mem hlt')
    refine Gs.indexE hr hlt' ?_
    intro b o hp
    refine Gs.loadP1 hp ?_
    refine G.conv (by omega) ?_
    exact Gs.ret (by unfold atU; simp [hlt'])
  · exact Gs.ret (by unfold atU; rw [List.getD_eq_getElem?_getD, List.getElem?_eq_none (by omega)]; rfl)
theorem atU_bd (l : List Int) (hb : ∀ n ∈ l, 0 ≤ n ∧ n ≤ 255) (i : Nat) : 0 ≤ atU l i ∧ atU l i ≤ 255 := by
  unfold atU
  rw [List.getD_eq_getElem?_getD]
  cases h : l[i]? with
  | none => exact ⟨by decide, by decide⟩
  | some x => exact hb x (List.mem_of_getElem? h)
/-- A slice without room behind its length. -/
def Tight (h : Hp) (v : Value) (l : List Stp) : Prop := ∃ a, v = .slice a l.length l.length ∧ RdE h v encP 2 l
theorem Lib_ok (l : List Int) (v : Value) (h : Hp) (hr : RdE h v eU 1 l) (hb : ∀ n ∈ l, 0 ≤ n ∧ n ≤ 255) (hl : l.length ≤ 9223372036854775807) : Ct Tryz.prog 11 [v] h (fun h' x => Tight h' x (lib l)) := by
  refine ct11 ?_
  intro w0
  unfold s11
  have b0 := atU_bd l hb 0
  have b1 := atU_bd l hb 1
  have b2 := atU_bd l hb 2
  have b3 := atU_bd l hb 3
  have b4 := atU_bd l hb 4
  refine Gs.callv0 (at_ok l v 1 h hr hb hl) ?_
  refine G.rem (by decide) ?_
  refine Gs.callv0 (at_ok l v 2 h hr hb hl) ?_
  refine G.rem (by decide) ?_
  refine Gs.callv0 (at_ok l v 3 h hr hb hl) ?_
  refine G.rem (by decide) ?_
  refine Gs.callv0 (at_ok l v 4 h hr hb hl) ?_
  refine G.rem (by decide) ?_
  rw [Int.tmod_eq_emod_of_nonneg b1.1, Int.tmod_eq_emod_of_nonneg b2.1, Int.tmod_eq_emod_of_nonneg b3.1, Int.tmod_eq_emod_of_nonneg b4.1]
  unfold lib
  have c1 : 0 ≤ atU l 1 % 8 ∧ atU l 1 % 8 < 8 := by omega
  generalize atU l 1 % 8 = d at *
  generalize atU l 2 % 8 = e at *
  generalize atU l 3 % 6 = k at *
  generalize atU l 4 % 4 = r at *
  (repeat (first | refine G.add (by omega) ?_ | refine G.sub (by omega) ?_ | refine G.mul (by omega) ?_ | refine G.neg (by omega) ?_ | refine G.quo (by omega) (by omega) ?_ | refine G.rem (by omega) ?_ | refine G.shr (by omega) ?_ | refine G.conv (by omega) ?_ | refine G.step ?_ | refine G.buildA (by rfl) ?_ | (refine Gs.box ?_; intro _) | (refine Gs.alloc ?_; intro _) | refine Gs.store ?_ | refine G.retc ?_ | refine Gs.dr ?_ | refine G.qadd (by omega) ?_ | refine G.qsub (by omega) ?_ | refine G.qmul (by omega) ?_ | refine G.qneg (by omega) ?_ | refine G.qkp ?_ | refine Gs.qkb ?_ | refine G.withT ?_ | refine Gs.withb ?_ | refine G.ift ?_ | refine G.iff ?_ | refine G.gdtt ?_ | refine G.gdff ?_ | refine G.gdtf ?_ | refine G.gdft ?_ | (refine G.jk ?_; intro _)))
  rw [Int.tmod_eq_emod_of_nonneg (show 0 ≤ d + 4 by omega)]
  (repeat (first | refine G.add (by omega) ?_ | refine G.sub (by omega) ?_ | refine G.mul (by omega) ?_ | refine G.neg (by omega) ?_ | refine G.quo (by omega) (by omega) ?_ | refine G.rem (by omega) ?_ | refine G.shr (by omega) ?_ | refine G.conv (by omega) ?_ | refine G.step ?_ | refine G.buildA (by rfl) ?_ | (refine Gs.box ?_; intro _) | (refine Gs.alloc ?_; intro _) | refine Gs.store ?_ | refine G.retc ?_ | refine Gs.dr ?_ | refine G.qadd (by omega) ?_ | refine G.qsub (by omega) ?_ | refine G.qmul (by omega) ?_ | refine G.qneg (by omega) ?_ | refine G.qkp ?_ | refine Gs.qkb ?_ | refine G.withT ?_ | refine Gs.withb ?_ | refine G.ift ?_ | refine G.iff ?_ | refine G.gdtt ?_ | refine G.gdff ?_ | refine G.gdtf ?_ | refine G.gdft ?_ | (refine G.jk ?_; intro _)))
  refine Gs.buildSlice (by decide) ?_
  intro q0
  (repeat (first | refine G.add (by omega) ?_ | refine G.sub (by omega) ?_ | refine G.mul (by omega) ?_ | refine G.neg (by omega) ?_ | refine G.quo (by omega) (by omega) ?_ | refine G.rem (by omega) ?_ | refine G.shr (by omega) ?_ | refine G.conv (by omega) ?_ | refine G.step ?_ | refine G.buildA (by rfl) ?_ | (refine Gs.box ?_; intro _) | (refine Gs.alloc ?_; intro _) | refine Gs.store ?_ | refine G.retc ?_ | refine Gs.dr ?_ | refine G.qadd (by omega) ?_ | refine G.qsub (by omega) ?_ | refine G.qmul (by omega) ?_ | refine G.qneg (by omega) ?_ | refine G.qkp ?_ | refine Gs.qkb ?_ | refine G.withT ?_ | refine Gs.withb ?_ | refine G.ift ?_ | refine G.iff ?_ | refine G.gdtt ?_ | refine G.gdff ?_ | refine G.gdtf ?_ | refine G.gdft ?_ | (refine G.jk ?_; intro _)))
  refine Gs.buildSlice (by decide) ?_
  intro q1
  (repeat (first | refine G.add (by omega) ?_ | refine G.sub (by omega) ?_ | refine G.mul (by omega) ?_ | refine G.neg (by omega) ?_ | refine G.quo (by omega) (by omega) ?_ | refine G.rem (by omega) ?_ | refine G.shr (by omega) ?_ | refine G.conv (by omega) ?_ | refine G.step ?_ | refine G.buildA (by rfl) ?_ | (refine Gs.box ?_; intro _) | (refine Gs.alloc ?_; intro _) | refine Gs.store ?_ | refine G.retc ?_ | refine Gs.dr ?_ | refine G.qadd (by omega) ?_ | refine G.qsub (by omega) ?_ | refine G.qmul (by omega) ?_ | refine G.qneg (by omega) ?_ | refine G.qkp ?_ | refine Gs.qkb ?_ | refine G.withT ?_ | refine Gs.withb ?_ | refine G.ift ?_ | refine G.iff ?_ | refine G.gdtt ?_ | refine G.gdff ?_ | refine G.gdtf ?_ | refine G.gdft ?_ | (refine G.jk ?_; intro _)))
  refine Gs.buildSlice (by decide) ?_
  intro q2
  (repeat (first | refine G.add (by omega) ?_ | refine G.sub (by omega) ?_ | refine G.mul (by omega) ?_ | refine G.neg (by omega) ?_ | refine G.quo (by omega) (by omega) ?_ | refine G.rem (by omega) ?_ | refine G.shr (by omega) ?_ | refine G.conv (by omega) ?_ | refine G.step ?_ | refine G.buildA (by rfl) ?_ | (refine Gs.box ?_; intro _) | (refine Gs.alloc ?_; intro _) | refine Gs.store ?_ | refine G.retc ?_ | refine Gs.dr ?_ | refine G.qadd (by omega) ?_ | refine G.qsub (by omega) ?_ | refine G.qmul (by omega) ?_ | refine G.qneg (by omega) ?_ | refine G.qkp ?_ | refine Gs.qkb ?_ | refine G.withT ?_ | refine Gs.withb ?_ | refine G.ift ?_ | refine G.iff ?_ | refine G.gdtt ?_ | refine G.gdff ?_ | refine G.gdtf ?_ | refine G.gdft ?_ | (refine G.jk ?_; intro _)))
  refine Gs.buildSlice (by decide) ?_
  intro q3
  (repeat (first | refine G.add (by omega) ?_ | refine G.sub (by omega) ?_ | refine G.mul (by omega) ?_ | refine G.neg (by omega) ?_ | refine G.quo (by omega) (by omega) ?_ | refine G.rem (by omega) ?_ | refine G.shr (by omega) ?_ | refine G.conv (by omega) ?_ | refine G.step ?_ | refine G.buildA (by rfl) ?_ | (refine Gs.box ?_; intro _) | (refine Gs.alloc ?_; intro _) | refine Gs.store ?_ | refine G.retc ?_ | refine Gs.dr ?_ | refine G.qadd (by omega) ?_ | refine G.qsub (by omega) ?_ | refine G.qmul (by omega) ?_ | refine G.qneg (by omega) ?_ | refine G.qkp ?_ | refine Gs.qkb ?_ | refine G.withT ?_ | refine Gs.withb ?_ | refine G.ift ?_ | refine G.iff ?_ | refine G.gdtt ?_ | refine G.gdff ?_ | refine G.gdtf ?_ | refine G.gdft ?_ | (refine G.jk ?_; intro _)))
  refine Gs.buildSlice (by decide) ?_
  intro q4
  (repeat (first | refine G.add (by omega) ?_ | refine G.sub (by omega) ?_ | refine G.mul (by omega) ?_ | refine G.neg (by omega) ?_ | refine G.quo (by omega) (by omega) ?_ | refine G.rem (by omega) ?_ | refine G.shr (by omega) ?_ | refine G.conv (by omega) ?_ | refine G.step ?_ | refine G.buildA (by rfl) ?_ | (refine Gs.box ?_; intro _) | (refine Gs.alloc ?_; intro _) | refine Gs.store ?_ | refine G.retc ?_ | refine Gs.dr ?_ | refine G.qadd (by omega) ?_ | refine G.qsub (by omega) ?_ | refine G.qmul (by omega) ?_ | refine G.qneg (by omega) ?_ | refine G.qkp ?_ | refine Gs.qkb ?_ | refine G.withT ?_ | refine Gs.withb ?_ | refine G.ift ?_ | refine G.iff ?_ | refine G.gdtt ?_ | refine G.gdff ?_ | refine G.gdtf ?_ | refine G.gdft ?_ | (refine G.jk ?_; intro _)))
  refine Gs.buildSlice (by decide) ?_
  intro q5
  (repeat (first | refine G.add (by omega) ?_ | refine G.sub (by omega) ?_ | refine G.mul (by omega) ?_ | refine G.neg (by omega) ?_ | refine G.quo (by omega) (by omega) ?_ | refine G.rem (by omega) ?_ | refine G.shr (by omega) ?_ | refine G.conv (by omega) ?_ | refine G.step ?_ | refine G.buildA (by rfl) ?_ | (refine Gs.box ?_; intro _) | (refine Gs.alloc ?_; intro _) | refine Gs.store ?_ | refine G.retc ?_ | refine Gs.dr ?_ | refine G.qadd (by omega) ?_ | refine G.qsub (by omega) ?_ | refine G.qmul (by omega) ?_ | refine G.qneg (by omega) ?_ | refine G.qkp ?_ | refine Gs.qkb ?_ | refine G.withT ?_ | refine Gs.withb ?_ | refine G.ift ?_ | refine G.iff ?_ | refine G.gdtt ?_ | refine G.gdff ?_ | refine G.gdtf ?_ | refine G.gdft ?_ | (refine G.jk ?_; intro _)))
  refine Gs.buildSlice (by decide) ?_
  intro q6
  (repeat (first | refine G.add (by omega) ?_ | refine G.sub (by omega) ?_ | refine G.mul (by omega) ?_ | refine G.neg (by omega) ?_ | refine G.quo (by omega) (by omega) ?_ | refine G.rem (by omega) ?_ | refine G.shr (by omega) ?_ | refine G.conv (by omega) ?_ | refine G.step ?_ | refine G.buildA (by rfl) ?_ | (refine Gs.box ?_; intro _) | (refine Gs.alloc ?_; intro _) | refine Gs.store ?_ | refine G.retc ?_ | refine Gs.dr ?_ | refine G.qadd (by omega) ?_ | refine G.qsub (by omega) ?_ | refine G.qmul (by omega) ?_ | refine G.qneg (by omega) ?_ | refine G.qkp ?_ | refine Gs.qkb ?_ | refine G.withT ?_ | refine Gs.withb ?_ | refine G.ift ?_ | refine G.iff ?_ | refine G.gdtt ?_ | refine G.gdff ?_ | refine G.gdtf ?_ | refine G.gdft ?_ | (refine G.jk ?_; intro _)))
  refine Gs.buildSlice (by decide) ?_
  intro q7
  (repeat (first | refine G.add (by omega) ?_ | refine G.sub (by omega) ?_ | refine G.mul (by omega) ?_ | refine G.neg (by omega) ?_ | refine G.quo (by omega) (by omega) ?_ | refine G.rem (by omega) ?_ | refine G.shr (by omega) ?_ | refine G.conv (by omega) ?_ | refine G.step ?_ | refine G.buildA (by rfl) ?_ | (refine Gs.box ?_; intro _) | (refine Gs.alloc ?_; intro _) | refine Gs.store ?_ | refine G.retc ?_ | refine Gs.dr ?_ | refine G.qadd (by omega) ?_ | refine G.qsub (by omega) ?_ | refine G.qmul (by omega) ?_ | refine G.qneg (by omega) ?_ | refine G.qkp ?_ | refine Gs.qkb ?_ | refine G.withT ?_ | refine Gs.withb ?_ | refine G.ift ?_ | refine G.iff ?_ | refine G.gdtt ?_ | refine G.gdff ?_ | refine G.gdtf ?_ | refine G.gdft ?_ | (refine G.jk ?_; intro _)))
  refine Gs.buildSlice (by decide) ?_
  intro q8
  (repeat (first | refine G.add (by omega) ?_ | refine G.sub (by omega) ?_ | refine G.mul (by omega) ?_ | refine G.neg (by omega) ?_ | refine G.quo (by omega) (by omega) ?_ | refine G.rem (by omega) ?_ | refine G.shr (by omega) ?_ | refine G.conv (by omega) ?_ | refine G.step ?_ | refine G.buildA (by rfl) ?_ | (refine Gs.box ?_; intro _) | (refine Gs.alloc ?_; intro _) | refine Gs.store ?_ | refine G.retc ?_ | refine Gs.dr ?_ | refine G.qadd (by omega) ?_ | refine G.qsub (by omega) ?_ | refine G.qmul (by omega) ?_ | refine G.qneg (by omega) ?_ | refine G.qkp ?_ | refine Gs.qkb ?_ | refine G.withT ?_ | refine Gs.withb ?_ | refine G.ift ?_ | refine G.iff ?_ | refine G.gdtt ?_ | refine G.gdff ?_ | refine G.gdtf ?_ | refine G.gdft ?_ | (refine G.jk ?_; intro _)))
  refine Gs.buildSlice (by decide) ?_
  intro q9
  (repeat (first | refine G.add (by omega) ?_ | refine G.sub (by omega) ?_ | refine G.mul (by omega) ?_ | refine G.neg (by omega) ?_ | refine G.quo (by omega) (by omega) ?_ | refine G.rem (by omega) ?_ | refine G.shr (by omega) ?_ | refine G.conv (by omega) ?_ | refine G.step ?_ | refine G.buildA (by rfl) ?_ | (refine Gs.box ?_; intro _) | (refine Gs.alloc ?_; intro _) | refine Gs.store ?_ | refine G.retc ?_ | refine Gs.dr ?_ | refine G.qadd (by omega) ?_ | refine G.qsub (by omega) ?_ | refine G.qmul (by omega) ?_ | refine G.qneg (by omega) ?_ | refine G.qkp ?_ | refine Gs.qkb ?_ | refine G.withT ?_ | refine Gs.withb ?_ | refine G.ift ?_ | refine G.iff ?_ | refine G.gdtt ?_ | refine G.gdff ?_ | refine G.gdtf ?_ | refine G.gdft ?_ | (refine G.jk ?_; intro _)))
  refine Gs.buildSlice (by decide) ?_
  intro q10
  (repeat (first | refine G.add (by omega) ?_ | refine G.sub (by omega) ?_ | refine G.mul (by omega) ?_ | refine G.neg (by omega) ?_ | refine G.quo (by omega) (by omega) ?_ | refine G.rem (by omega) ?_ | refine G.shr (by omega) ?_ | refine G.conv (by omega) ?_ | refine G.step ?_ | refine G.buildA (by rfl) ?_ | (refine Gs.box ?_; intro _) | (refine Gs.alloc ?_; intro _) | refine Gs.store ?_ | refine G.retc ?_ | refine Gs.dr ?_ | refine G.qadd (by omega) ?_ | refine G.qsub (by omega) ?_ | refine G.qmul (by omega) ?_ | refine G.qneg (by omega) ?_ | refine G.qkp ?_ | refine Gs.qkb ?_ | refine G.withT ?_ | refine Gs.withb ?_ | refine G.ift ?_ | refine G.iff ?_ | refine G.gdtt ?_ | refine G.gdff ?_ | refine G.gdtf ?_ | refine G.gdft ?_ | (refine G.jk ?_; intro _)))
  refine Gs.buildSlice (by decide) ?_
  intro q11
  (repeat (first | refine G.add (by omega) ?_ | refine G.sub (by omega) ?_ | refine G.mul (by omega) ?_ | refine G.neg (by omega) ?_ | refine G.quo (by omega) (by omega) ?_ | refine G.rem (by omega) ?_ | refine G.shr (by omega) ?_ | refine G.conv (by omega) ?_ | refine G.step ?_ | refine G.buildA (by rfl) ?_ | (refine Gs.box ?_; intro _) | (refine Gs.alloc ?_; intro _) | refine Gs.store ?_ | refine G.retc ?_ | refine Gs.dr ?_ | refine G.qadd (by omega) ?_ | refine G.qsub (by omega) ?_ | refine G.qmul (by omega) ?_ | refine G.qneg (by omega) ?_ | refine G.qkp ?_ | refine Gs.qkb ?_ | refine G.withT ?_ | refine Gs.withb ?_ | refine G.ift ?_ | refine G.iff ?_ | refine G.gdtt ?_ | refine G.gdff ?_ | refine G.gdtf ?_ | refine G.gdft ?_ | (refine G.jk ?_; intro _)))
  refine Gs.buildSlice (by decide) ?_
  intro q12
  (repeat (first | refine G.add (by omega) ?_ | refine G.sub (by omega) ?_ | refine G.mul (by omega) ?_ | refine G.neg (by omega) ?_ | refine G.quo (by omega) (by omega) ?_ | refine G.rem (by omega) ?_ | refine G.shr (by omega) ?_ | refine G.conv (by omega) ?_ | refine G.step ?_ | refine G.buildA (by rfl) ?_ | (refine Gs.box ?_; intro _) | (refine Gs.alloc ?_; intro _) | refine Gs.store ?_ | refine G.retc ?_ | refine Gs.dr ?_ | refine G.qadd (by omega) ?_ | refine G.qsub (by omega) ?_ | refine G.qmul (by omega) ?_ | refine G.qneg (by omega) ?_ | refine G.qkp ?_ | refine Gs.qkb ?_ | refine G.withT ?_ | refine Gs.withb ?_ | refine G.ift ?_ | refine G.iff ?_ | refine G.gdtt ?_ | refine G.gdff ?_ | refine G.gdtf ?_ | refine G.gdft ?_ | (refine G.jk ?_; intro _)))
  refine Gs.buildSlice (by decide) ?_
  intro q13
  (repeat (first | refine G.add (by omega) ?_ | refine G.sub (by omega) ?_ | refine G.mul (by omega) ?_ | refine G.neg (by omega) ?_ | refine G.quo (by omega) (by omega) ?_ | refine G.rem (by omega) ?_ | refine G.shr (by omega) ?_ | refine G.conv (by omega) ?_ | refine G.step ?_ | refine G.buildA (by rfl) ?_ | (refine Gs.box ?_; intro _) | (refine Gs.alloc ?_; intro _) | refine Gs.store ?_ | refine G.retc ?_ | refine Gs.dr ?_ | refine G.qadd (by omega) ?_ | refine G.qsub (by omega) ?_ | refine G.qmul (by omega) ?_ | refine G.qneg (by omega) ?_ | refine G.qkp ?_ | refine Gs.qkb ?_ | refine G.withT ?_ | refine Gs.withb ?_ | refine G.ift ?_ | refine G.iff ?_ | refine G.gdtt ?_ | refine G.gdff ?_ | refine G.gdtf ?_ | refine G.gdft ?_ | (refine G.jk ?_; intro _)))
  refine Gs.buildSlice (by decide) ?_
  intro q14
  (repeat (first | refine G.add (by omega) ?_ | refine G.sub (by omega) ?_ | refine G.mul (by omega) ?_ | refine G.neg (by omega) ?_ | refine G.quo (by omega) (by omega) ?_ | refine G.rem (by omega) ?_ | refine G.shr (by omega) ?_ | refine G.conv (by omega) ?_ | refine G.step ?_ | refine G.buildA (by rfl) ?_ | (refine Gs.box ?_; intro _) | (refine Gs.alloc ?_; intro _) | refine Gs.store ?_ | refine G.retc ?_ | refine Gs.dr ?_ | refine G.qadd (by omega) ?_ | refine G.qsub (by omega) ?_ | refine G.qmul (by omega) ?_ | refine G.qneg (by omega) ?_ | refine G.qkp ?_ | refine Gs.qkb ?_ | refine G.withT ?_ | refine Gs.withb ?_ | refine G.ift ?_ | refine G.iff ?_ | refine G.gdtt ?_ | refine G.gdff ?_ | refine G.gdtf ?_ | refine G.gdft ?_ | (refine G.jk ?_; intro _)))
  refine Gs.buildSlice (by decide) ?_
  intro q15
  (repeat (first | refine G.add (by omega) ?_ | refine G.sub (by omega) ?_ | refine G.mul (by omega) ?_ | refine G.neg (by omega) ?_ | refine G.quo (by omega) (by omega) ?_ | refine G.rem (by omega) ?_ | refine G.shr (by omega) ?_ | refine G.conv (by omega) ?_ | refine G.step ?_ | refine G.buildA (by rfl) ?_ | (refine Gs.box ?_; intro _) | (refine Gs.alloc ?_; intro _) | refine Gs.store ?_ | refine G.retc ?_ | refine Gs.dr ?_ | refine G.qadd (by omega) ?_ | refine G.qsub (by omega) ?_ | refine G.qmul (by omega) ?_ | refine G.qneg (by omega) ?_ | refine G.qkp ?_ | refine Gs.qkb ?_ | refine G.withT ?_ | refine Gs.withb ?_ | refine G.ift ?_ | refine G.iff ?_ | refine G.gdtt ?_ | refine G.gdff ?_ | refine G.gdtf ?_ | refine G.gdft ?_ | (refine G.jk ?_; intro _)))
  refine Gs.buildSlice (by decide) ?_
  intro q16
  clear b1 b2 b3 b4 c1
  refine Gs.freezeE (v := .slice (some ⟨q0, 0, none⟩) 2 2) (enc := encP) (l := [(1, d), (3, 0)]) (by decide) ?_
  intro h0 le0 r0
  refine Gs.freezeE (v := .slice (some ⟨q1, 0, none⟩) 3 3) (enc := encP) (l := [(1, d), (4, 0), (6, 0)]) (by decide) ?_
  intro h1 le1 r1
  refine Gs.freezeE (v := .slice (some ⟨q2, 0, none⟩) 1 1) (enc := encP) (l := [(2, d)]) (by decide) ?_
  intro h2 le2 r2
  refine Gs.freezeE (v := .slice (some ⟨q3, 0, none⟩) 3 3) (enc := encP) (l := [(2, d), (4, 0), (6, 0)]) (by decide) ?_
  intro h3 le3 r3
  refine Gs.freezeE (v := .slice (some ⟨q4, 0, none⟩) 4 4) (enc := encP) (l := [(1, d), (4, 0), (6, 0), (1, d)]) (by decide) ?_
  intro h4 le4 r4
  refine Gs.freezeE (v := .slice (some ⟨q5, 0, none⟩) 2 2) (enc := encP) (l := [(1, d), (1, e)]) (by decide) ?_
  intro h5 le5 r5
  refine Gs.freezeE (v := .slice (some ⟨q6, 0, none⟩) 2 2) (enc := encP) (l := [(1, d), (7, d)]) (by decide) ?_
  intro h6 le6 r6
  refine Gs.freezeE (v := .slice (some ⟨q7, 0, none⟩) 3 3) (enc := encP) (l := [(1, d), (3, 0), (8, k)]) (by decide) ?_
  intro h7 le7 r7
  refine Gs.freezeE (v := .slice (some ⟨q8, 0, none⟩) 4 4) (enc := encP) (l := [(9, r), (1, d), (1, d), (10, r)]) (by decide) ?_
  intro h8 le8 r8
  refine Gs.freezeE (v := .slice (some ⟨q9, 0, none⟩) 4 4) (enc := encP) (l := [(1, d), (5, 0), (1, d), (3, 0)]) (by decide) ?_
  intro h9 le9 r9
  refine Gs.freezeE (v := .slice (some ⟨q10, 0, none⟩) 2 2) (enc := encP) (l := [(10, r), (1, d)]) (by decide) ?_
  intro h10 le10 r10
  refine Gs.freezeE (v := .slice (some ⟨q11, 0, none⟩) 4 4) (enc := encP) (l := [(1, d), (4, 0), (6, 0), (1, (d + 4) % 8)]) (by decide) ?_
  intro h11 le11 r11
  refine Gs.freezeE (v := .slice (some ⟨q12, 0, none⟩) 6 6) (enc := encP) (l := [(1, d), (4, 0), (6, 0), (1, e), (4, 0), (6, 0)]) (by decide) ?_
  intro h12 le12 r12
  refine Gs.freezeE (v := .slice (some ⟨q13, 0, none⟩) 3 3) (enc := encP) (l := [(2, d), (5, 0), (1, d)]) (by decide) ?_
  intro h13 le13 r13
  refine Gs.freezeE (v := .slice (some ⟨q14, 0, none⟩) 4 4) (enc := encP) (l := [(1, d), (4, 0), (6, 0), (8, k)]) (by decide) ?_
  intro h14 le14 r14
  refine Gs.freezeE (v := .slice (some ⟨q15, 0, none⟩) 3 3) (enc := encP) (l := [(1, d), (7, d), (1, e)]) (by decide) ?_
  intro h15 le15 r15
  refine Gs.freezeE (v := .slice (some ⟨q16, 0, none⟩) 16 16) (enc := eSl) (l := [(some ⟨q0, 0, none⟩, 2, 2), (some ⟨q1, 0, none⟩, 3, 3), (some ⟨q2, 0, none⟩, 1, 1), (some ⟨q3, 0, none⟩, 3, 3), (some ⟨q4, 0, none⟩, 4, 4), (some ⟨q5, 0, none⟩, 2, 2), (some ⟨q6, 0, none⟩, 2, 2), (some ⟨q7, 0, none⟩, 3, 3), (some ⟨q8, 0, none⟩, 4, 4), (some ⟨q9, 0, none⟩, 4, 4), (some ⟨q10, 0, none⟩, 2, 2), (some ⟨q11, 0, none⟩, 4, 4), (some ⟨q12, 0, none⟩, 6, 6), (some ⟨q13, 0, none⟩, 3, 3), (some ⟨q14, 0, none⟩, 4, 4), (some ⟨q15, 0, none⟩, 3, 3)]) (by decide) ?_
  intro h16 le16 r16
  have t0 : Tight h16 (.slice (some ⟨q0, 0, none⟩) 2 2) [(1, d), (3, 0)] := ⟨_, rfl, ((((((((((((((((r0.mono le1).mono le2).mono le3).mono le4).mono le5).mono le6).mono le7).mono le8).mono le9).mono le10).mono le11).mono le12).mono le13).mono le14).mono le15).mono le16)⟩
  have t1 : Tight h16 (.slice (some ⟨q1, 0, none⟩) 3 3) [(1, d), (4, 0), (6, 0)] := ⟨_, rfl, (((((((((((((((r1.mono le2).mono le3).mono le4).mono le5).mono le6).mono le7).mono le8).mono le9).mono le10).mono le11).mono le12).mono le13).mono le14).mono le15).mono le16)⟩
  have t2 : Tight h16 (.slice (some ⟨q2, 0, none⟩) 1 1) [(2, d)] := ⟨_, rfl, ((((((((((((((r2.mono le3).mono le4).mono le5).mono le6).mono le7).mono le8).mono le9).mono le10).mono le11).mono le12).mono le13).mono le14).mono le15).mono le16)⟩
  have t3 : Tight h16 (.slice (some ⟨q3, 0, none⟩) 3 3) [(2, d), (4, 0), (6, 0)] := ⟨_, rfl, (((((((((((((r3.mono le4).mono le5).mono le6).mono le7).mono le8).mono le9).mono le10).mono le11).mono le12).mono le13).mono le14).mono le15).mono le16)⟩
  have t4 : Tight h16 (.slice (some ⟨q4, 0, none⟩) 4 4) [(1, d), (4, 0), (6, 0), (1, d)] := ⟨_, rfl, ((((((((((((r4.mono le5).mono le6).mono le7).mono le8).mono le9).mono le10).mono le11).mono le12).mono le13).mono le14).mono le15).mono le16)⟩
  have t5 : Tight h16 (.slice (some ⟨q5, 0, none⟩) 2 2) [(1, d), (1, e)] := ⟨_, rfl, (((((((((((r5.mono le6).mono le7).mono le8).mono le9).mono le10).mono le11).mono le12).mono le13).mono le14).mono le15).mono le16)⟩
  have t6 : Tight h16 (.slice (some ⟨q6, 0, none⟩) 2 2) [(1, d), (7, d)] := ⟨_, rfl, ((((((((((r6.mono le7).mono le8).mono le9).mono le10).mono le11).mono le12).mono le13).mono le14).mono le15).mono le16)⟩
  have t7 : Tight h16 (.slice (some ⟨q7, 0, none⟩) 3 3) [(1, d), (3, 0), (8, k)] := ⟨_, rfl, (((((((((r7.mono le8).mono le9).mono le10).mono le11).mono le12).mono le13).mono le14).mono le15).mono le16)⟩
  have t8 : Tight h16 (.slice (some ⟨q8, 0, none⟩) 4 4) [(9, r), (1, d), (1, d), (10, r)] := ⟨_, rfl, ((((((((r8.mono le9).mono le10).mono le11).mono le12).mono le13).mono le14).mono le15).mono le16)⟩
  have t9 : Tight h16 (.slice (some ⟨q9, 0, none⟩) 4 4) [(1, d), (5, 0), (1, d), (3, 0)] := ⟨_, rfl, (((((((r9.mono le10).mono le11).mono le12).mono le13).mono le14).mono le15).mono le16)⟩
  have t10 : Tight h16 (.slice (some ⟨q10, 0, none⟩) 2 2) [(10, r), (1, d)] := ⟨_, rfl, ((((((r10.mono le11).mono le12).mono le13).mono le14).mono le15).mono le16)⟩
  have t11 : Tight h16 (.slice (some ⟨q11, 0, none⟩) 4 4) [(1, d), (4, 0), (6, 0), (1, (d + 4) % 8)] := ⟨_, rfl, (((((r11.mono le12).mono le13).mono le14).mono le15).mono le16)⟩
  have t12 : Tight h16 (.slice (some ⟨q12, 0, none⟩) 6 6) [(1, d), (4, 0), (6, 0), (1, e), (4, 0), (6, 0)] := ⟨_, rfl, ((((r12.mono le13).mono le14).mono le15).mono le16)⟩
  have t13 : Tight h16 (.slice (some ⟨q13, 0, none⟩) 3 3) [(2, d), (5, 0), (1, d)] := ⟨_, rfl, (((r13.mono le14).mono le15).mono le16)⟩
  have t14 : Tight h16 (.slice (some ⟨q14, 0, none⟩) 4 4) [(1, d), (4, 0), (6, 0), (8, k)] := ⟨_, rfl, ((r14.mono le15).mono le16)⟩
  have t15 : Tight h16 (.slice (some ⟨q15, 0, none⟩) 3 3) [(1, d), (7, d), (1, e)] := ⟨_, rfl, (r15.mono le16)⟩
  have hle : Hle h h16 := ((((((((((((((((le0.trans le1).trans le2).trans le3).trans le4).trans le5).trans le6).trans le7).trans le8).trans le9).trans le10).trans le11).trans le12).trans le13).trans le14).trans le15).trans le16)
  clear r0 le0 r1 le1 r2 le2 r3 le3 r4 le4 r5 le5 r6 le6 r7 le7 r8 le8 r9 le9 r10 le10 r11 le11 r12 le12 r13 le13 r14 le14 r15 le15
  refine Gs.callv0 (at_ok l v 0 h16 (hr.mono hle) hb hl) ?_
  refine Gs.lenE r16 (by simp) ?_
  refine G.rem (by simp) ?_
  rw [Int.tmod_eq_emod_of_nonneg b0.1]
  have hm : 0 ≤ atU l 0 % 16 ∧ atU l 0 % 16 < 16 := by omega
  have hmm : atU l 0 % (([(some ⟨q0, 0, none⟩, 2, 2), (some ⟨q1, 0, none⟩, 3, 3), (some ⟨q2, 0, none⟩, 1, 1), (some ⟨q3, 0, none⟩, 3, 3), (some ⟨q4, 0, none⟩, 4, 4), (some ⟨q5, 0, none⟩, 2, 2), (some ⟨q6, 0, none⟩, 2, 2), (some ⟨q7, 0, none⟩, 3, 3), (some ⟨q8, 0, none⟩, 4, 4), (some ⟨q9, 0, none⟩, 4, 4), (some ⟨q10, 0, none⟩, 2, 2), (some ⟨q11, 0, none⟩, 4, 4), (some ⟨q12, 0, none⟩, 6, 6), (some ⟨q13, 0, none⟩, 3, 3), (some ⟨q14, 0, none⟩, 4, 4), (some ⟨q15, 0, none⟩, 3, 3)] : List (Option Addr × Nat × Nat)).length : Int) = atU l 0 % 16 := rfl
  rw [hmm]
  obtain ⟨i, hi⟩ := Int.eq_ofNat_of_zero_le hm.1
  rw [hi]
  have hi16 : i < 16 := by omega
  refine Gs.indexE r16 hi16 ?_
  intro bb oo hp
  refine Gs.loadP1 hp ?_
  refine Gs.ret ?_
  clear hp r16 hi hm hmm
  rw [Int.toNat_natCast]
  have hc : i = 0 ∨ i = 1 ∨ i = 2 ∨ i = 3 ∨ i = 4 ∨ i = 5 ∨ i = 6 ∨ i = 7 ∨ i = 8 ∨ i = 9 ∨ i = 10 ∨ i = 11 ∨ i = 12 ∨ i = 13 ∨ i = 14 ∨ i = 15 := by omega
  rcases hc with rfl | rfl | rfl | rfl | rfl | rfl | rfl | rfl | rfl | rfl | rfl | rfl | rfl | rfl | rfl | rfl
  · exact t0
  · exact t1
  · exact t2
  · exact t3
  · exact t4
  · exact t5
  · exact t6
  · exact t7
  · exact t8
  · exact t9
  · exact t10
  · exact t11
  · exact t12
  · exact t13
  · exact t14
  · exact t15
theorem short_ok (l : List Stp) (v : Value) (h : Hp) (hr : RdE h v encP 2 l) (hl : l.length ≤ 9223372036854775807) : Ct Tryz.prog 12 [v] h (fun h' x => RdE h' x encP 2 (l.take 12)) := by
  refine ct12 ?_
  intro w0
  unfold s12
  refine Gs.buildSlice (by decide) ?_
  intro b
  refine Gs.lenE hr (by omega) ?_
  (repeat (first | refine G.add (by omega) ?_ | refine G.sub (by omega) ?_ | refine G.mul (by omega) ?_ | refine G.neg (by omega) ?_ | refine G.quo (by omega) (by omega) ?_ | refine G.rem (by omega) ?_ | refine G.shr (by omega) ?_ | refine G.conv (by omega) ?_ | refine G.step ?_ | refine G.buildA (by rfl) ?_ | (refine Gs.box ?_; intro _) | (refine Gs.alloc ?_; intro _) | refine Gs.store ?_ | refine G.retc ?_ | refine Gs.dr ?_ | refine G.qadd (by omega) ?_ | refine G.qsub (by omega) ?_ | refine G.qmul (by omega) ?_ | refine G.qneg (by omega) ?_ | refine G.qkp ?_ | refine Gs.qkb ?_ | refine G.withT ?_ | refine Gs.withb ?_ | refine G.ift ?_ | refine G.iff ?_ | refine G.gdtt ?_ | refine G.gdff ?_ | refine G.gdtf ?_ | refine G.gdft ?_ | (refine G.jk ?_; intro _)))
  refine Gs.cutR (lo := none) (hi := some (min (l.length : Int) 12)) hr (by simp [cutLo, cutHi]) (by simp only [cutHi]; omega) (by intro i h; cases h) (by intro i h; cases h; omega) ?_
  intro v' hr'
  have hcut : (l.take (cutHi (some (min (l.length : Int) 12)) l.length)).drop (cutLo none) = l.take 12 := by
    simp only [cutHi, cutLo, List.drop_zero]
    rcases Nat.le_total l.length 12 with h1 | h1
    · rw [List.take_of_length_le (by omega), List.take_of_length_le h1]
    · rw [show (min (l.length : Int) 12).toNat = 12 by omega]
  rw [hcut] at hr'
  have hlt : (l.take 12).length ≤ 12 := by rw [List.length_take]; omega
  refine Gs.appendR (enc := encP) (l := []) (m := l.take 12) (v := .slice (some ⟨b, 0, none⟩) 0 0) hr' (by simp; omega) (by simp; omega) ?_
  intro v2
  refine Gs.freezeE (v := v2) (enc := encP) (by decide) ?_
  intro h' hle hr2
  exact Gs.ret hr2
theorem clone_call {w0 : World} {h0 h : Hp} {L : List Itm} {K : Value → WP} {v : Value} (l : List Stp) (hr : RdE h v encP 2 l) (hl : l.length ≤ 100000) (hk : ∀ v', Gs w0 h0 h (.sl v' 41 2 (fl encP l) :: L) (K v')) : Gs w0 h0 h L (Do Tryz.prog (vCall (.func (.func 43) #[] ⟨[]⟩) [v]) K) := by
  refine in43 ?_
  unfold s43
  refine Gs.snil hr ?_
  intro b hb
  cases b
  · (repeat (first | refine G.add (by omega) ?_ | refine G.sub (by omega) ?_ | refine G.mul (by omega) ?_ | refine G.neg (by omega) ?_ | refine G.quo (by omega) (by omega) ?_ | refine G.rem (by omega) ?_ | refine G.shr (by omega) ?_ | refine G.conv (by omega) ?_ | refine G.step ?_ | refine G.buildA (by rfl) ?_ | (refine Gs.box ?_; intro _) | (refine Gs.alloc ?_; intro _) | refine Gs.store ?_ | refine G.retc ?_ | refine Gs.dr ?_ | refine G.qadd (by omega) ?_ | refine G.qsub (by omega) ?_ | refine G.qmul (by omega) ?_ | refine G.qneg (by omega) ?_ | refine G.qkp ?_ | refine Gs.qkb ?_ | refine G.withT ?_ | refine Gs.withb ?_ | refine G.ift ?_ | refine G.iff ?_ | refine G.gdtt ?_ | refine G.gdff ?_ | refine G.gdtf ?_ | refine G.gdft ?_ | (refine G.jk ?_; intro _)))
    refine Gs.buildSlice (by decide) ?_
    intro b2
    refine Gs.appendR (enc := encP) (l := []) (m := l) (v := .slice (some ⟨b2, 0, none⟩) 0 0) hr (by simp; omega) (by simp; omega) ?_
    intro v'
    exact hk v'
  · (repeat (first | refine G.add (by omega) ?_ | refine G.sub (by omega) ?_ | refine G.mul (by omega) ?_ | refine G.neg (by omega) ?_ | refine G.quo (by omega) (by omega) ?_ | refine G.rem (by omega) ?_ | refine G.shr (by omega) ?_ | refine G.conv (by omega) ?_ | refine G.step ?_ | refine G.buildA (by rfl) ?_ | (refine Gs.box ?_; intro _) | (refine Gs.alloc ?_; intro _) | refine Gs.store ?_ | refine G.retc ?_ | refine Gs.dr ?_ | refine G.qadd (by omega) ?_ | refine G.qsub (by omega) ?_ | refine G.qmul (by omega) ?_ | refine G.qneg (by omega) ?_ | refine G.qkp ?_ | refine Gs.qkb ?_ | refine G.withT ?_ | refine Gs.withb ?_ | refine G.ift ?_ | refine G.iff ?_ | refine G.gdtt ?_ | refine G.gdff ?_ | refine G.gdtf ?_ | refine G.gdft ?_ | (refine G.jk ?_; intro _)))
    have hn := hb rfl
    subst hn
    exact Gs.nilsl 41 2 (hk _)
def turn (t : List Int) (s : Stp) : Stp := if leadB s.1 = true then (s.1, t.getD s.2.toNat 0) else s
theorem Turned_ok (l : List Stp) (t : List Int) (v u : Value) (h : Hp) (hr : RdE h v encP 2 l) (hq : RdE h u eInt 1 t) (hl : l.length ≤ 100000) (hb : ∀ s ∈ l, leadB s.1 = true → 0 ≤ s.2 ∧ s.2 < t.length) :
    Ct Tryz.prog 26 [v, u] h (fun h' x => RdE h' x encP 2 (l.map (turn t))) := by
  refine ct26 ?_
  intro w0
  unfold s26
  refine clone_call l hr hl ?_
  intro cv
  refine Gs.olen (l := l) (enc := encP) (by omega) ?_
  refine Gs.lp (β := Nat) (fun i => I i) (fun _ => h) (fun i => [.sl cv 41 2 (fl encP ((l.take i).map (turn t) ++ l.drop i))]) (fun i => i ≤ l.length) (fun i => l.length - i) 0 rfl (Nat.zero_le _) (fun w hw => by simpa using hw) ?_
  intro i hi cont hc
  (repeat (first | refine G.add (by omega) ?_ | refine G.sub (by omega) ?_ | refine G.mul (by omega) ?_ | refine G.neg (by omega) ?_ | refine G.quo (by omega) (by omega) ?_ | refine G.rem (by omega) ?_ | refine G.shr (by omega) ?_ | refine G.conv (by omega) ?_ | refine G.step ?_ | refine G.buildA (by rfl) ?_ | (refine Gs.box ?_; intro _) | (refine Gs.alloc ?_; intro _) | refine Gs.store ?_ | refine G.retc ?_ | refine Gs.dr ?_ | refine G.qadd (by omega) ?_ | refine G.qsub (by omega) ?_ | refine G.qmul (by omega) ?_ | refine G.qneg (by omega) ?_ | refine G.qkp ?_ | refine Gs.qkb ?_ | refine G.withT ?_ | refine Gs.withb ?_ | refine G.ift ?_ | refine G.iff ?_ | refine G.gdtt ?_ | refine G.gdff ?_ | refine G.gdtf ?_ | refine G.gdft ?_ | (refine G.jk ?_; intro _)))
  refine G.ifd ?_ ?_ <;> intro hlt
  · have hlt' : i < l.length := by omega
    have hlen : ((l.take i).map (turn t) ++ l.drop i).length = l.length := by simp; omega
    have hget : ∀ hq : i < ((l.take i).map (turn t) ++ l.drop i).length, ((l.take i).map (turn t) ++ l.drop i)[i]'hq = l[i] := by
      intro hq
      rw [List.getElem_append_right (by simp; omega)]
      simp
      congr 1
      omega
    have hnext : (l.take (i + 1)).map (turn t) ++ l.drop (i + 1) = ((l.take i).map (turn t) ++ l.drop i).set i (turn t l[i]) := by
      rw [List.take_succ_eq_append_getElem hlt', List.map_append, List.set_append_right _ _ (by simp; omega), List.drop_eq_getElem_cons hlt']
      have : i - ((l.take i).map (turn t)).length = 0 := by simp; omega
      rw [this, List.set_cons_zero, List.append_assoc]
      rfl
    have hc := hc (i + 1) (by omega) (by omega)
    rw [hnext] at hc
    have hsame : leadB l[i].1 = false → ((l.take i).map (turn t) ++ l.drop i).set i (turn t l[i]) = (l.take i).map (turn t) ++ l.drop i := by
      intro hb
      have : turn t l[i] = l[i] := by unfold turn; rw [hb]; rfl
      rw [this, ← hget (by omega), List.set_getElem_self]
    have hbi := hb l[i] (List.getElem_mem hlt')
    have htn : leadB l[i].1 = true → turn t l[i] = (l[i].1, t.getD l[i].2.toNat 0) := by intro hb; unfold turn; rw [if_pos hb]
    generalize (l.take i).map (turn t) ++ l.drop i = m at *
    generalize hli : l[i] = s at *
    generalize turn t s = s' at *
    have him : i < m.length := by omega
    refine G.jn ?_
    refine Gs.oindex (l := m) (enc := encP) him ?_
    intro b o hp
    rw [hget] at hp
    refine Gs.oloadN hp rfl ?_
    (repeat (first | refine G.add (by omega) ?_ | refine G.sub (by omega) ?_ | refine G.mul (by omega) ?_ | refine G.neg (by omega) ?_ | refine G.quo (by omega) (by omega) ?_ | refine G.rem (by omega) ?_ | refine G.shr (by omega) ?_ | refine G.conv (by omega) ?_ | refine G.step ?_ | refine G.buildA (by rfl) ?_ | (refine Gs.box ?_; intro _) | (refine Gs.alloc ?_; intro _) | refine Gs.store ?_ | refine G.retc ?_ | refine Gs.dr ?_ | refine G.qadd (by omega) ?_ | refine G.qsub (by omega) ?_ | refine G.qmul (by omega) ?_ | refine G.qneg (by omega) ?_ | refine G.qkp ?_ | refine Gs.qkb ?_ | refine G.withT ?_ | refine Gs.withb ?_ | refine G.ift ?_ | refine G.iff ?_ | refine G.gdtt ?_ | refine G.gdff ?_ | refine G.gdtf ?_ | refine G.gdft ?_ | (refine G.jk ?_; intro _)))
    refine Gs.callv0 (leads_ok s h) ?_
    cases hbs : leadB s.1
    · rw [hsame hbs] at hc
      (repeat (first | refine G.add (by omega) ?_ | refine G.sub (by omega) ?_ | refine G.mul (by omega) ?_ | refine G.neg (by omega) ?_ | refine G.quo (by omega) (by omega) ?_ | refine G.rem (by omega) ?_ | refine G.shr (by omega) ?_ | refine G.conv (by omega) ?_ | refine G.step ?_ | refine G.buildA (by rfl) ?_ | (refine Gs.box ?_; intro _) | (refine Gs.alloc ?_; intro _) | refine Gs.store ?_ | refine G.retc ?_ | refine Gs.dr ?_ | refine G.qadd (by omega) ?_ | refine G.qsub (by omega) ?_ | refine G.qmul (by omega) ?_ | refine G.qneg (by omega) ?_ | refine G.qkp ?_ | refine Gs.qkb ?_ | refine G.withT ?_ | refine Gs.withb ?_ | refine G.ift ?_ | refine G.iff ?_ | refine G.gdtt ?_ | refine G.gdff ?_ | refine G.gdtf ?_ | refine G.gdft ?_ | (refine G.jk ?_; intro _)))
      exact Gs.goS hc rfl
    · obtain ⟨g1, g2⟩ := hbi hbs
      have htn := htn hbs
      subst htn
      obtain ⟨n, hn⟩ := Int.eq_ofNat_of_zero_le g1
      have hnt : n < t.length := by omega
      have hval : t.getD s.2.toNat 0 = t[n] := by rw [hn, Int.toNat_natCast]; simp [hnt]
      rw [hval] at hc
      (repeat (first | refine G.add (by omega) ?_ | refine G.sub (by omega) ?_ | refine G.mul (by omega) ?_ | refine G.neg (by omega) ?_ | refine G.quo (by omega) (by omega) ?_ | refine G.rem (by omega) ?_ | refine G.shr (by omega) ?_ | refine G.conv (by omega) ?_ | refine G.step ?_ | refine G.buildA (by rfl) ?_ | (refine Gs.box ?_; intro _) | (refine Gs.alloc ?_; intro _) | refine Gs.store ?_ | refine G.retc ?_ | refine Gs.dr ?_ | refine G.qadd (by omega) ?_ | refine G.qsub (by omega) ?_ | refine G.qmul (by omega) ?_ | refine G.qneg (by omega) ?_ | refine G.qkp ?_ | refine Gs.qkb ?_ | refine G.withT ?_ | refine Gs.withb ?_ | refine G.ift ?_ | refine G.iff ?_ | refine G.gdtt ?_ | refine G.gdff ?_ | refine G.gdtf ?_ | refine G.gdft ?_ | (refine G.jk ?_; intro _)))
      rw [hn]
      refine Gs.indexE hq hnt ?_
      intro b1 o1 hp1
      refine Gs.loadP1 hp1 ?_
      refine Gs.oindexW (l := m) (enc := encP) him ?_
      intro b2 o2 hp2 ho2
      (repeat (first | refine G.add (by omega) ?_ | refine G.sub (by omega) ?_ | refine G.mul (by omega) ?_ | refine G.neg (by omega) ?_ | refine G.quo (by omega) (by omega) ?_ | refine G.rem (by omega) ?_ | refine G.shr (by omega) ?_ | refine G.conv (by omega) ?_ | refine G.step ?_ | refine G.buildA (by rfl) ?_ | (refine Gs.box ?_; intro _) | (refine Gs.alloc ?_; intro _) | refine Gs.store ?_ | refine G.retc ?_ | refine Gs.dr ?_ | refine G.qadd (by omega) ?_ | refine G.qsub (by omega) ?_ | refine G.qmul (by omega) ?_ | refine G.qneg (by omega) ?_ | refine G.qkp ?_ | refine Gs.qkb ?_ | refine G.withT ?_ | refine Gs.withb ?_ | refine G.ift ?_ | refine G.iff ?_ | refine G.gdtt ?_ | refine G.gdff ?_ | refine G.gdtf ?_ | refine G.gdft ?_ | (refine G.jk ?_; intro _)))
      refine Gs.ostore (pa := []) (c := 1) (i := i) (a := ((s.1, t[n]) : Stp)) (l := m) (enc := encP) him hp2 ho2 (by rw [hget]; rfl) (by decide) ?_
      (repeat (first | refine G.add (by omega) ?_ | refine G.sub (by omega) ?_ | refine G.mul (by omega) ?_ | refine G.neg (by omega) ?_ | refine G.quo (by omega) (by omega) ?_ | refine G.rem (by omega) ?_ | refine G.shr (by omega) ?_ | refine G.conv (by omega) ?_ | refine G.step ?_ | refine G.buildA (by rfl) ?_ | (refine Gs.box ?_; intro _) | (refine Gs.alloc ?_; intro _) | refine Gs.store ?_ | refine G.retc ?_ | refine Gs.dr ?_ | refine G.qadd (by omega) ?_ | refine G.qsub (by omega) ?_ | refine G.qmul (by omega) ?_ | refine G.qneg (by omega) ?_ | refine G.qkp ?_ | refine Gs.qkb ?_ | refine G.withT ?_ | refine Gs.withb ?_ | refine G.ift ?_ | refine G.iff ?_ | refine G.gdtt ?_ | refine G.gdff ?_ | refine G.gdtf ?_ | refine G.gdft ?_ | (refine G.jk ?_; intro _)))
      exact Gs.goS hc rfl
  · have hil : i = l.length := by omega
    subst hil
    rw [List.take_of_length_le (Nat.le_refl _), List.drop_eq_nil_of_le (Nat.le_refl _), List.append_nil]
    refine Gs.freezeE (v := cv) (enc := encP) (by decide) ?_
    intro h' hle hr'
    exact Gs.ret hr'
end Go.Proofs.YtlljhipmnkdpeaaGreatDoor
end

section
set_option linter.unusedVariables false
set_option maxHeartbeats 4000000
namespace Go.Proofs.YtlljhipmnkdpeaaGreatDoor
open Go Go.Sk Go.Pr Go.RowKit
def aL : List Stp := [(2, 7), (4, 0), (6, 0), (8, 5)]
def bL : List Stp := [(9, 3), (1, 1), (7, 1), (10, 3)]
def tL : List Stp := [(9, 3), (1, 6), (7, 6), (10, 3)]
def bT : List UInt8 := [110, 101, 101, 100, 51, 32, 103, 111, 49, 32, 112, 117, 115, 104, 49, 32, 108, 111, 115, 101, 51]
def aT : List UInt8 := [115, 108, 105, 100, 101, 55, 32, 101, 110, 101, 109, 121, 32, 116, 97, 107, 101, 32, 98, 101, 99, 111, 109, 101, 53]
def oddL : List (List UInt8) := [[103, 111], [103, 111, 56], [103, 111, 48, 48], [103, 111, 48, 32, 32, 101, 109, 112, 116, 121], [101, 109, 112, 116, 121, 48], [116, 97, 107, 101, 32, 116, 97, 107, 101, 32, 116, 97, 107, 101], []]
theorem print_a : printP aL = aT := by decide +kernel
theorem print_b : printP bL = bT := by decide +kernel
theorem print_nil : printP [] = [] := by decide +kernel
theorem valid_b : validB bL 8 6 4 = true := by decide +kernel
theorem va1 : validB aL 8 6 0 = true := by decide +kernel
theorem va2 : validB aL 7 6 4 = false := by decide +kernel
theorem vb1 : validB bL 8 6 3 = false := by decide +kernel
theorem vn : validB [] 8 6 4 = false := by decide +kernel
theorem dirs_one (l : List Stp) (n : Int) (h : leadsN l ≠ []) (ha : ∀ x ∈ leadsN l, x = n) : dirs l = [n] := by
  obtain ⟨h1, h2⟩ := dirs_rises l
  refine rises_ext _ _ h1 (by simp [Rises]) fun x => ?_
  rw [h2, List.mem_singleton]
  refine ⟨ha x, fun hx => ?_⟩
  subst hx
  cases hl : leadsN l with
  | nil => exact absurd hl h
  | cons a r =>
    have := ha a (by rw [hl]; simp)
    rw [this]
    simp
theorem dirs_a : dirs aL = [7] := dirs_one _ _ (by decide +kernel) (by decide +kernel)
theorem dirs_b : dirs bL = [1] := dirs_one _ _ (by decide +kernel) (by decide +kernel)
theorem no_print {s : List UInt8} (m : List Stp) (hm : (spl s).map rd = m.map some) (hv : validB m 8 6 4 = false ∨ printP m ≠ s) : ∀ l, validB l 8 6 4 = true → printP l ≠ s := by
  intro l hl hp
  have h2 := rd_valid hl hp
  rw [hm] at h2
  have := some_inj _ _ h2
  subst this
  rcases hv with hv | hv
  · rw [hv] at hl; cases hl
  · exact hv hp
theorem no_word {s : List UInt8} (hm : none ∈ (spl s).map rd) : ∀ l, validB l 8 6 4 = true → printP l ≠ s := by
  intro l hl hp
  rw [rd_valid hl hp] at hm
  obtain ⟨x, _, hx⟩ := List.mem_map.1 hm
  cases hx
theorem odd_no : ∀ s ∈ oddL, ∀ l, validB l 8 6 4 = true → printP l ≠ s := by
  intro s hs
  simp only [oddL, List.mem_cons, List.not_mem_nil, or_false] at hs
  rcases hs with rfl | rfl | rfl | rfl | rfl | rfl | rfl
  · exact no_word (by decide +kernel)
  · exact no_print [(1, 8)] (by decide +kernel) (.inl (by decide +kernel))
  · exact no_print [(1, 0)] (by decide +kernel) (.inr (by decide +kernel))
  · exact no_word (by decide +kernel)
  · exact no_word (by decide +kernel)
  · exact no_print [(6, 0), (6, 0), (6, 0)] (by decide +kernel) (.inl (by decide +kernel))
  · exact no_word (by decide +kernel)
theorem odd_len : ∀ s ∈ oddL, s.length ≤ 100 := by decide +kernel
section
variable {w0 : World} {h0 h : Hp} {L : List Itm} {K : Value → WP} {v u : Value} {l m : List Stp}
theorem valid_call (l : List Stp) (d k r : Int) (hr : RdE h v encP 2 l) (hl : l.length ≤ 1000000) {b : Bool} (hb : validB l d k r = b) (hk : Gs w0 h0 h L (K (.bool b))) : Gs w0 h0 h L (Do Tryz.prog (vCall (.func (.func 13) #[] ⟨[]⟩) [v, I d, I k, I r]) K) := Gs.callv0 (valid_ok l v d k r h hr hl) (by rw [hb]; exact hk)
theorem dirs_call (l : List Stp) (ns : List Int) (hr : RdE h v encP 2 l) (hl : l.length ≤ 100000) (hn : dirs l = ns) (hk : ∀ h' x, Hle h h' → RdE h' x eInt 1 ns → Gs w0 h0 h' L (K x)) : Gs w0 h0 h L (Do Tryz.prog (vCall (.func (.func 18) #[] ⟨[]⟩) [v]) K) :=
  Gs.call0 (Dirs_ok l v h hr hl) fun x h' hle hr' => hk h' x hle (hn ▸ hr')
theorem one_int (n : Int) {X : WP} (hk : ∀ h' x, Hle h h' → RdE h' x eInt 1 [n] → Gs w0 h0 h' L (K x)) : Gs w0 h0 h L (Do Tryz.prog (vBuildSlice 33 1 [(0, I n)]) K) := by
  refine Gs.buildSlice (by decide) ?_
  intro b
  refine Gs.freezeE (v := .slice (some ⟨b, 0, none⟩) 1 1) (enc := eInt) (l := [n]) (by decide) ?_
  intro h' hle hr
  exact hk h' _ hle hr
end
/-- What the checks of the fixed programs need. -/
structure SE (h : Hp) (va vb vt : Value) : Prop where
  a : RdE h va encP 2 aL
  b : RdE h vb encP 2 bL
  t : RdE h vt encP 2 tL
  e : Env h
theorem SE.mono {h h' : Hp} {va vb vt : Value} (hle : Hle h h') (s : SE h va vb vt) : SE h' va vb vt := ⟨s.a.mono hle, s.b.mono hle, s.t.mono hle, s.e.mono hle⟩
section
variable {w0 : World} {h0 h : Hp} {L : List Itm} {K : Value → WP} {va vb vt : Value}
/-- The two lists of directions, in both orders. -/
theorem dirsA (hS : SE h va vb vt) (hk : ∀ h', SE h' va vb vt → Gs w0 h0 h' L (K (.bool true))) :
    Gs w0 h0 h L (Do Tryz.prog (vCall (.func (.func 18) #[] ⟨[]⟩) [va]) fun t => Do Tryz.prog (vBuildSlice 33 1 [(0, I 7)]) fun u => Do Tryz.prog (vCall (.func (.func 17) #[] ⟨[]⟩) [t, u]) K) := by
  refine dirs_call aL [7] hS.a (by decide) dirs_a ?_
  intro h1 x1 hle1 hr1
  refine one_int 7 (X := K (.bool true)) ?_
  intro h2 x2 hle2 hr2
  refine Gs.callv0 (sameInts_ok [7] [7] x1 x2 h2 (hr1.mono hle2) hr2 (by decide) (by decide)) ?_
  exact hk h2 (hS.mono (hle1.trans hle2))
theorem dirsA' (hS : SE h va vb vt) (hk : ∀ h', SE h' va vb vt → Gs w0 h0 h' L (K (.bool true))) :
    Gs w0 h0 h L (Do Tryz.prog (vBuildSlice 33 1 [(0, I 7)]) fun u => Do Tryz.prog (vCall (.func (.func 18) #[] ⟨[]⟩) [va]) fun t => Do Tryz.prog (vCall (.func (.func 17) #[] ⟨[]⟩) [t, u]) K) := by
  refine one_int 7 (X := K (.bool true)) ?_
  intro h2 x2 hle2 hr2
  refine dirs_call aL [7] (hS.mono hle2).a (by decide) dirs_a ?_
  intro h1 x1 hle1 hr1
  refine Gs.callv0 (sameInts_ok [7] [7] x1 x2 h1 hr1 (hr2.mono hle1) (by decide) (by decide)) ?_
  exact hk h1 (hS.mono (hle2.trans hle1))
theorem dirsB (hS : SE h va vb vt) (hk : ∀ h', SE h' va vb vt → Gs w0 h0 h' L (K (.bool true))) :
    Gs w0 h0 h L (Do Tryz.prog (vCall (.func (.func 18) #[] ⟨[]⟩) [vb]) fun t => Do Tryz.prog (vBuildSlice 33 1 [(0, I 1)]) fun u => Do Tryz.prog (vCall (.func (.func 17) #[] ⟨[]⟩) [t, u]) K) := by
  refine dirs_call bL [1] hS.b (by decide) dirs_b ?_
  intro h1 x1 hle1 hr1
  refine one_int 1 (X := K (.bool true)) ?_
  intro h2 x2 hle2 hr2
  refine Gs.callv0 (sameInts_ok [1] [1] x1 x2 h2 (hr1.mono hle2) hr2 (by decide) (by decide)) ?_
  exact hk h2 (hS.mono (hle1.trans hle2))
theorem dirsB' (hS : SE h va vb vt) (hk : ∀ h', SE h' va vb vt → Gs w0 h0 h' L (K (.bool true))) :
    Gs w0 h0 h L (Do Tryz.prog (vBuildSlice 33 1 [(0, I 1)]) fun u => Do Tryz.prog (vCall (.func (.func 18) #[] ⟨[]⟩) [vb]) fun t => Do Tryz.prog (vCall (.func (.func 17) #[] ⟨[]⟩) [t, u]) K) := by
  refine one_int 1 (X := K (.bool true)) ?_
  intro h2 x2 hle2 hr2
  refine dirs_call bL [1] (hS.mono hle2).b (by decide) dirs_b ?_
  intro h1 x1 hle1 hr1
  refine Gs.callv0 (sameInts_ok [1] [1] x1 x2 h1 hr1 (hr2.mono hle1) (by decide) (by decide)) ?_
  exact hk h1 (hS.mono (hle2.trans hle1))
/-- The tail of the checks. -/
def endS (P : Program) (va vb vt : Value) (K : Value → WP) : WP :=
  Qk P (V (Instr.indexAt 26 vb (.int .i64 0))) fun C79 t79_99 =>
  Qk P (V (Instr.loadAt 41 t79_99)) fun C80 t80_100 =>
  Qk P (vBuild 41 [(0, (.int .i64 1)), (1, (.int .i64 6))]) fun C81 t81_101 =>
  Qk P (vBuild 41 [(0, (.int .i64 7)), (1, (.int .i64 6))]) fun C82 t82_102 =>
  Qk P (V (Instr.indexAt 26 vb (.int .i64 3))) fun C83 t83_104 =>
  Qk P (V (Instr.loadAt 41 t83_104)) fun C84 t84_105 =>
  Do P (vBuildSlice 26 4 [(0, t80_100), (1, t81_101), (2, t82_102), (3, t84_105)]) fun t85_106 =>
  Do P (vCall (.func (.func 24) #[] ⟨[]⟩) [vt, t85_106]) fun t86_107 =>
  Gd t86_107 true (
   Do P (vCall (.func (.func 13) #[] ⟨[]⟩) [va, (.int .i64 8), (.int .i64 6), (.int .i64 0)]) fun t87_111 =>
   Gd t87_111 true (
    Do P (vCall (.func (.func 13) #[] ⟨[]⟩) [va, (.int .i64 7), (.int .i64 6), (.int .i64 4)]) fun t88_115 =>
    Qk P (V (Op.unary .not t88_115)) fun C89 t89_116 =>
    Gd t89_116 true (
     Do P (vCall (.func (.func 13) #[] ⟨[]⟩) [vb, (.int .i64 8), (.int .i64 6), (.int .i64 3)]) fun t90_120 =>
     Qk P (V (Op.unary .not t90_120)) fun C91 t91_121 =>
     Gd t91_121 true (
      Do P (vCall (.func (.func 13) #[] ⟨[]⟩) [(.slice none 0 0), (.int .i64 8), (.int .i64 6), (.int .i64 4)]) fun t92_124 =>
      Qk P (V (Op.unary .not t92_124)) fun C93 t93_125 =>
      K t93_125
     ) (
      K (.bool false)
     )
    ) (
     K (.bool false)
    )
   ) (
    K (.bool false)
   )
  ) (
   K (.bool false)
  )
theorem endS_ok (hS : SE h va vb vt) (hk : ∀ h', Gs w0 h0 h' L (K (.bool true))) : Gs w0 h0 h L (endS Tryz.prog va vb vt K) := by
  unfold endS
  refine Gs.qindexE (i := 0) hS.b (by decide) ?_
  intro b1 o1 hp1
  refine Gs.qloadPN hp1 rfl ?_
  (repeat (first | refine G.add (by omega) ?_ | refine G.sub (by omega) ?_ | refine G.mul (by omega) ?_ | refine G.neg (by omega) ?_ | refine G.quo (by omega) (by omega) ?_ | refine G.rem (by omega) ?_ | refine G.shr (by omega) ?_ | refine G.conv (by omega) ?_ | refine G.step ?_ | refine G.buildA (by rfl) ?_ | (refine Gs.box ?_; intro _) | (refine Gs.alloc ?_; intro _) | refine Gs.store ?_ | refine G.retc ?_ | refine Gs.dr ?_ | refine G.qadd (by omega) ?_ | refine G.qsub (by omega) ?_ | refine G.qmul (by omega) ?_ | refine G.qneg (by omega) ?_ | refine G.qkp ?_ | refine Gs.qkb ?_ | refine G.withT ?_ | refine Gs.withb ?_ | refine G.ift ?_ | refine G.iff ?_ | refine G.gdtt ?_ | refine G.gdff ?_ | refine G.gdtf ?_ | refine G.gdft ?_ | (refine G.jk ?_; intro _)))
  refine Gs.qindexE (i := 3) hS.b (by decide) ?_
  intro b2 o2 hp2
  refine Gs.qloadPN hp2 rfl ?_
  (repeat (first | refine G.add (by omega) ?_ | refine G.sub (by omega) ?_ | refine G.mul (by omega) ?_ | refine G.neg (by omega) ?_ | refine G.quo (by omega) (by omega) ?_ | refine G.rem (by omega) ?_ | refine G.shr (by omega) ?_ | refine G.conv (by omega) ?_ | refine G.step ?_ | refine G.buildA (by rfl) ?_ | (refine Gs.box ?_; intro _) | (refine Gs.alloc ?_; intro _) | refine Gs.store ?_ | refine G.retc ?_ | refine Gs.dr ?_ | refine G.qadd (by omega) ?_ | refine G.qsub (by omega) ?_ | refine G.qmul (by omega) ?_ | refine G.qneg (by omega) ?_ | refine G.qkp ?_ | refine Gs.qkb ?_ | refine G.withT ?_ | refine Gs.withb ?_ | refine G.ift ?_ | refine G.iff ?_ | refine G.gdtt ?_ | refine G.gdff ?_ | refine G.gdtf ?_ | refine G.gdft ?_ | (refine G.jk ?_; intro _)))
  refine Gs.buildSlice (by decide) ?_
  intro b
  refine Gs.freezeE (v := .slice (some ⟨b, 0, none⟩) 4 4) (enc := encP) (l := tL) (by decide) ?_
  intro h1 hle1 hr1
  have hS := hS.mono hle1
  refine Gs.callv0 (same_ok tL tL vt _ h1 hS.t hr1 (by decide) (by decide)) ?_
  (repeat (first | refine G.add (by omega) ?_ | refine G.sub (by omega) ?_ | refine G.mul (by omega) ?_ | refine G.neg (by omega) ?_ | refine G.quo (by omega) (by omega) ?_ | refine G.rem (by omega) ?_ | refine G.shr (by omega) ?_ | refine G.conv (by omega) ?_ | refine G.step ?_ | refine G.buildA (by rfl) ?_ | (refine Gs.box ?_; intro _) | (refine Gs.alloc ?_; intro _) | refine Gs.store ?_ | refine G.retc ?_ | refine Gs.dr ?_ | refine G.qadd (by omega) ?_ | refine G.qsub (by omega) ?_ | refine G.qmul (by omega) ?_ | refine G.qneg (by omega) ?_ | refine G.qkp ?_ | refine Gs.qkb ?_ | refine G.withT ?_ | refine Gs.withb ?_ | refine G.ift ?_ | refine G.iff ?_ | refine G.gdtt ?_ | refine G.gdff ?_ | refine G.gdtf ?_ | refine G.gdft ?_ | (refine G.jk ?_; intro _)))
  refine valid_call aL 8 6 0 hS.a (by decide) va1 ?_
  (repeat (first | refine G.add (by omega) ?_ | refine G.sub (by omega) ?_ | refine G.mul (by omega) ?_ | refine G.neg (by omega) ?_ | refine G.quo (by omega) (by omega) ?_ | refine G.rem (by omega) ?_ | refine G.shr (by omega) ?_ | refine G.conv (by omega) ?_ | refine G.step ?_ | refine G.buildA (by rfl) ?_ | (refine Gs.box ?_; intro _) | (refine Gs.alloc ?_; intro _) | refine Gs.store ?_ | refine G.retc ?_ | refine Gs.dr ?_ | refine G.qadd (by omega) ?_ | refine G.qsub (by omega) ?_ | refine G.qmul (by omega) ?_ | refine G.qneg (by omega) ?_ | refine G.qkp ?_ | refine Gs.qkb ?_ | refine G.withT ?_ | refine Gs.withb ?_ | refine G.ift ?_ | refine G.iff ?_ | refine G.gdtt ?_ | refine G.gdff ?_ | refine G.gdtf ?_ | refine G.gdft ?_ | (refine G.jk ?_; intro _)))
  refine valid_call aL 7 6 4 hS.a (by decide) va2 ?_
  (repeat (first | refine G.add (by omega) ?_ | refine G.sub (by omega) ?_ | refine G.mul (by omega) ?_ | refine G.neg (by omega) ?_ | refine G.quo (by omega) (by omega) ?_ | refine G.rem (by omega) ?_ | refine G.shr (by omega) ?_ | refine G.conv (by omega) ?_ | refine G.step ?_ | refine G.buildA (by rfl) ?_ | (refine Gs.box ?_; intro _) | (refine Gs.alloc ?_; intro _) | refine Gs.store ?_ | refine G.retc ?_ | refine Gs.dr ?_ | refine G.qadd (by omega) ?_ | refine G.qsub (by omega) ?_ | refine G.qmul (by omega) ?_ | refine G.qneg (by omega) ?_ | refine G.qkp ?_ | refine Gs.qkb ?_ | refine G.withT ?_ | refine Gs.withb ?_ | refine G.ift ?_ | refine G.iff ?_ | refine G.gdtt ?_ | refine G.gdff ?_ | refine G.gdtf ?_ | refine G.gdft ?_ | (refine G.jk ?_; intro _)))
  refine valid_call bL 8 6 3 hS.b (by decide) vb1 ?_
  (repeat (first | refine G.add (by omega) ?_ | refine G.sub (by omega) ?_ | refine G.mul (by omega) ?_ | refine G.neg (by omega) ?_ | refine G.quo (by omega) (by omega) ?_ | refine G.rem (by omega) ?_ | refine G.shr (by omega) ?_ | refine G.conv (by omega) ?_ | refine G.step ?_ | refine G.buildA (by rfl) ?_ | (refine Gs.box ?_; intro _) | (refine Gs.alloc ?_; intro _) | refine Gs.store ?_ | refine G.retc ?_ | refine Gs.dr ?_ | refine G.qadd (by omega) ?_ | refine G.qsub (by omega) ?_ | refine G.qmul (by omega) ?_ | refine G.qneg (by omega) ?_ | refine G.qkp ?_ | refine Gs.qkb ?_ | refine G.withT ?_ | refine Gs.withb ?_ | refine G.ift ?_ | refine G.iff ?_ | refine G.gdtt ?_ | refine G.gdff ?_ | refine G.gdtf ?_ | refine G.gdft ?_ | (refine G.jk ?_; intro _)))
  refine valid_call [] 8 6 4 (RdE.nil _ _ _) (by decide) vn ?_
  (repeat (first | refine G.add (by omega) ?_ | refine G.sub (by omega) ?_ | refine G.mul (by omega) ?_ | refine G.neg (by omega) ?_ | refine G.quo (by omega) (by omega) ?_ | refine G.rem (by omega) ?_ | refine G.shr (by omega) ?_ | refine G.conv (by omega) ?_ | refine G.step ?_ | refine G.buildA (by rfl) ?_ | (refine Gs.box ?_; intro _) | (refine Gs.alloc ?_; intro _) | refine Gs.store ?_ | refine G.retc ?_ | refine Gs.dr ?_ | refine G.qadd (by omega) ?_ | refine G.qsub (by omega) ?_ | refine G.qmul (by omega) ?_ | refine G.qneg (by omega) ?_ | refine G.qkp ?_ | refine Gs.qkb ?_ | refine G.withT ?_ | refine Gs.withb ?_ | refine G.ift ?_ | refine G.iff ?_ | refine G.gdtt ?_ | refine G.gdff ?_ | refine G.gdtf ?_ | refine G.gdft ?_ | (refine G.jk ?_; intro _)))
  exact hk h1
end
theorem sanity_ok (h : Hp) (hE : Env h) : Ct Tryz.prog 10 [] h (fun _ v => v = .bool true) := by
  refine ct10 ?_
  intro w0
  unfold s10
  (repeat (first | refine G.add (by omega) ?_ | refine G.sub (by omega) ?_ | refine G.mul (by omega) ?_ | refine G.neg (by omega) ?_ | refine G.quo (by omega) (by omega) ?_ | refine G.rem (by omega) ?_ | refine G.shr (by omega) ?_ | refine G.conv (by omega) ?_ | refine G.step ?_ | refine G.buildA (by rfl) ?_ | (refine Gs.box ?_; intro _) | (refine Gs.alloc ?_; intro _) | refine Gs.store ?_ | refine G.retc ?_ | refine Gs.dr ?_ | refine G.qadd (by omega) ?_ | refine G.qsub (by omega) ?_ | refine G.qmul (by omega) ?_ | refine G.qneg (by omega) ?_ | refine G.qkp ?_ | refine Gs.qkb ?_ | refine G.withT ?_ | refine Gs.withb ?_ | refine G.ift ?_ | refine G.iff ?_ | refine G.gdtt ?_ | refine G.gdff ?_ | refine G.gdtf ?_ | refine G.gdft ?_ | (refine G.jk ?_; intro _)))
  refine Gs.buildSlice (by decide) ?_
  intro b1
  (repeat (first | refine G.add (by omega) ?_ | refine G.sub (by omega) ?_ | refine G.mul (by omega) ?_ | refine G.neg (by omega) ?_ | refine G.quo (by omega) (by omega) ?_ | refine G.rem (by omega) ?_ | refine G.shr (by omega) ?_ | refine G.conv (by omega) ?_ | refine G.step ?_ | refine G.buildA (by rfl) ?_ | (refine Gs.box ?_; intro _) | (refine Gs.alloc ?_; intro _) | refine Gs.store ?_ | refine G.retc ?_ | refine Gs.dr ?_ | refine G.qadd (by omega) ?_ | refine G.qsub (by omega) ?_ | refine G.qmul (by omega) ?_ | refine G.qneg (by omega) ?_ | refine G.qkp ?_ | refine Gs.qkb ?_ | refine G.withT ?_ | refine Gs.withb ?_ | refine G.ift ?_ | refine G.iff ?_ | refine G.gdtt ?_ | refine G.gdff ?_ | refine G.gdtf ?_ | refine G.gdft ?_ | (refine G.jk ?_; intro _)))
  refine Gs.buildSlice (by decide) ?_
  intro b2
  refine Gs.freezeE (v := .slice (some ⟨b1, 0, none⟩) 4 4) (enc := encP) (l := aL) (by decide) ?_
  intro h1 hle1 ha
  refine Gs.freezeE (v := .slice (some ⟨b2, 0, none⟩) 4 4) (enc := encP) (l := bL) (by decide) ?_
  intro h2 hle2 hb
  have hE := (hE.mono hle1).mono hle2
  have ha := ha.mono hle2
  refine Gs.call0 (Parse_ok bT h2 hE (by decide)) ?_
  intro pv h3 hle3 hp
  have hE := hE.mono hle3
  have ha := ha.mono hle3
  have hb := hb.mono hle3
  rcases hp with ⟨l, v', hl, hlp, rfl, hr⟩ | ⟨hno, _⟩
  · have hll : l = bL := print_inj hl valid_b (hlp.trans print_b.symm)
    subst hll
    (repeat (first | refine G.add (by omega) ?_ | refine G.sub (by omega) ?_ | refine G.mul (by omega) ?_ | refine G.neg (by omega) ?_ | refine G.quo (by omega) (by omega) ?_ | refine G.rem (by omega) ?_ | refine G.shr (by omega) ?_ | refine G.conv (by omega) ?_ | refine G.step ?_ | refine G.buildA (by rfl) ?_ | (refine Gs.box ?_; intro _) | (refine Gs.alloc ?_; intro _) | refine Gs.store ?_ | refine G.retc ?_ | refine Gs.dr ?_ | refine G.qadd (by omega) ?_ | refine G.qsub (by omega) ?_ | refine G.qmul (by omega) ?_ | refine G.qneg (by omega) ?_ | refine G.qkp ?_ | refine Gs.qkb ?_ | refine G.withT ?_ | refine Gs.withb ?_ | refine G.ift ?_ | refine G.iff ?_ | refine G.gdtt ?_ | refine G.gdff ?_ | refine G.gdtf ?_ | refine G.gdft ?_ | (refine G.jk ?_; intro _)))
    refine G.jnP (fun v => v = .bool true) ?_ ?_
    · rintro _ rfl
      (repeat (first | refine G.add (by omega) ?_ | refine G.sub (by omega) ?_ | refine G.mul (by omega) ?_ | refine G.neg (by omega) ?_ | refine G.quo (by omega) (by omega) ?_ | refine G.rem (by omega) ?_ | refine G.shr (by omega) ?_ | refine G.conv (by omega) ?_ | refine G.step ?_ | refine G.buildA (by rfl) ?_ | (refine Gs.box ?_; intro _) | (refine Gs.alloc ?_; intro _) | refine Gs.store ?_ | refine G.retc ?_ | refine Gs.dr ?_ | refine G.qadd (by omega) ?_ | refine G.qsub (by omega) ?_ | refine G.qmul (by omega) ?_ | refine G.qneg (by omega) ?_ | refine G.qkp ?_ | refine Gs.qkb ?_ | refine G.withT ?_ | refine Gs.withb ?_ | refine G.ift ?_ | refine G.iff ?_ | refine G.gdtt ?_ | refine G.gdff ?_ | refine G.gdtf ?_ | refine G.gdft ?_ | (refine G.jk ?_; intro _)))
      refine Gs.buildSlice (by decide) ?_
      intro b3
      refine Gs.freezeE (v := .slice (some ⟨b3, 0, none⟩) 7 7) (enc := eStr) (l := oddL) (by decide) ?_
      intro h4 hle4 ho
      have hE := hE.mono hle4
      have ha := ha.mono hle4
      have hb := hb.mono hle4
      refine Gs.lp (β := Nat × Hp) (fun b => (.bool true, I b.1)) (fun b => b.2) (fun _ => []) (fun b => b.1 ≤ 7 ∧ Hle h4 b.2) (fun b => 7 - b.1) (0, h4) rfl ⟨Nat.zero_le _, Hle.refl _⟩ (fun _ h => h) ?_
      rintro ⟨i, h5⟩ ⟨hi, hle5⟩ cont hc
      dsimp only at *
      have ho := ho.mono hle5
      have hE := hE.mono hle5
      have ha := ha.mono hle5
      have hb := hb.mono hle5
      (repeat (first | refine G.add (by omega) ?_ | refine G.sub (by omega) ?_ | refine G.mul (by omega) ?_ | refine G.neg (by omega) ?_ | refine G.quo (by omega) (by omega) ?_ | refine G.rem (by omega) ?_ | refine G.shr (by omega) ?_ | refine G.conv (by omega) ?_ | refine G.step ?_ | refine G.buildA (by rfl) ?_ | (refine Gs.box ?_; intro _) | (refine Gs.alloc ?_; intro _) | refine Gs.store ?_ | refine G.retc ?_ | refine Gs.dr ?_ | refine G.qadd (by omega) ?_ | refine G.qsub (by omega) ?_ | refine G.qmul (by omega) ?_ | refine G.qneg (by omega) ?_ | refine G.qkp ?_ | refine Gs.qkb ?_ | refine G.withT ?_ | refine Gs.withb ?_ | refine G.ift ?_ | refine G.iff ?_ | refine G.gdtt ?_ | refine G.gdff ?_ | refine G.gdtf ?_ | refine G.gdft ?_ | (refine G.jk ?_; intro _)))
      refine Gs.lenE ho (by decide) ?_
      (repeat (first | refine G.add (by omega) ?_ | refine G.sub (by omega) ?_ | refine G.mul (by omega) ?_ | refine G.neg (by omega) ?_ | refine G.quo (by omega) (by omega) ?_ | refine G.rem (by omega) ?_ | refine G.shr (by omega) ?_ | refine G.conv (by omega) ?_ | refine G.step ?_ | refine G.buildA (by rfl) ?_ | (refine Gs.box ?_; intro _) | (refine Gs.alloc ?_; intro _) | refine Gs.store ?_ | refine G.retc ?_ | refine Gs.dr ?_ | refine G.qadd (by omega) ?_ | refine G.qsub (by omega) ?_ | refine G.qmul (by omega) ?_ | refine G.qneg (by omega) ?_ | refine G.qkp ?_ | refine Gs.qkb ?_ | refine G.withT ?_ | refine Gs.withb ?_ | refine G.ift ?_ | refine G.iff ?_ | refine G.gdtt ?_ | refine G.gdff ?_ | refine G.gdtf ?_ | refine G.gdft ?_ | (refine G.jk ?_; intro _)))
      refine G.ifd ?_ ?_ <;> intro hlt
      · have h7 : oddL.length = 7 := rfl
        have hlt' : i < oddL.length := by omega
        have hmem := List.getElem_mem hlt'
        refine G.jn ?_
        refine Gs.indexE ho hlt' ?_
        intro bb oo hpp
        refine Gs.loadP1 hpp ?_
        refine Gs.call0 (Parse_ok _ h5 hE (Nat.le_trans (odd_len _ hmem) (by decide))) ?_
        intro pv h6 hle6 hp
        rcases hp with ⟨l, v', hl, hlp, _, _⟩ | ⟨_, v', rfl, hr0⟩
        · exact absurd hlp (odd_no _ hmem l hl)
        · (repeat (first | refine G.add (by omega) ?_ | refine G.sub (by omega) ?_ | refine G.mul (by omega) ?_ | refine G.neg (by omega) ?_ | refine G.quo (by omega) (by omega) ?_ | refine G.rem (by omega) ?_ | refine G.shr (by omega) ?_ | refine G.conv (by omega) ?_ | refine G.step ?_ | refine G.buildA (by rfl) ?_ | (refine Gs.box ?_; intro _) | (refine Gs.alloc ?_; intro _) | refine Gs.store ?_ | refine G.retc ?_ | refine Gs.dr ?_ | refine G.qadd (by omega) ?_ | refine G.qsub (by omega) ?_ | refine G.qmul (by omega) ?_ | refine G.qneg (by omega) ?_ | refine G.qkp ?_ | refine Gs.qkb ?_ | refine G.withT ?_ | refine Gs.withb ?_ | refine G.ift ?_ | refine G.iff ?_ | refine G.gdtt ?_ | refine G.gdff ?_ | refine G.gdtf ?_ | refine G.gdft ?_ | (refine G.jk ?_; intro _)))
          refine Gs.lenE hr0 (by decide) ?_
          (repeat (first | refine G.add (by omega) ?_ | refine G.sub (by omega) ?_ | refine G.mul (by omega) ?_ | refine G.neg (by omega) ?_ | refine G.quo (by omega) (by omega) ?_ | refine G.rem (by omega) ?_ | refine G.shr (by omega) ?_ | refine G.conv (by omega) ?_ | refine G.step ?_ | refine G.buildA (by rfl) ?_ | (refine Gs.box ?_; intro _) | (refine Gs.alloc ?_; intro _) | refine Gs.store ?_ | refine G.retc ?_ | refine Gs.dr ?_ | refine G.qadd (by omega) ?_ | refine G.qsub (by omega) ?_ | refine G.qmul (by omega) ?_ | refine G.qneg (by omega) ?_ | refine G.qkp ?_ | refine Gs.qkb ?_ | refine G.withT ?_ | refine Gs.withb ?_ | refine G.ift ?_ | refine G.iff ?_ | refine G.gdtt ?_ | refine G.gdff ?_ | refine G.gdtf ?_ | refine G.gdft ?_ | (refine G.jk ?_; intro _)))
          exact Gs.goS (hc (i + 1, h6) ⟨by dsimp only; omega, hle5.trans hle6⟩ (by dsimp only; omega)) rfl
      · refine Gs.buildSlice (by decide) ?_
        intro b4
        refine Gs.freezeE (v := .slice (some ⟨b4, 0, none⟩) 2 2) (enc := eInt) (l := [5, 6]) (by decide) ?_
        intro h6 hle6 hr6
        have hE := hE.mono hle6
        have ha := ha.mono hle6
        have hb := hb.mono hle6
        refine Gs.call0 (Turned_ok bL [5, 6] _ _ h6 hb hr6 (by decide) (by decide +kernel)) ?_
        intro tv h7 hle7 hr7
        have hS : SE h7 _ _ tv := ⟨ha.mono hle7, hb.mono hle7, hr7, hE.mono hle7⟩
        refine Gs.dr ?_
        (repeat (first | refine G.add (by omega) ?_ | refine G.sub (by omega) ?_ | refine G.mul (by omega) ?_ | refine G.neg (by omega) ?_ | refine G.quo (by omega) (by omega) ?_ | refine G.rem (by omega) ?_ | refine G.shr (by omega) ?_ | refine G.conv (by omega) ?_ | refine G.step ?_ | refine G.buildA (by rfl) ?_ | (refine Gs.box ?_; intro _) | (refine Gs.alloc ?_; intro _) | refine Gs.store ?_ | refine G.retc ?_ | refine Gs.dr ?_ | refine G.qadd (by omega) ?_ | refine G.qsub (by omega) ?_ | refine G.qmul (by omega) ?_ | refine G.qneg (by omega) ?_ | refine G.qkp ?_ | refine Gs.qkb ?_ | refine G.withT ?_ | refine Gs.withb ?_ | refine G.ift ?_ | refine G.iff ?_ | refine G.gdtt ?_ | refine G.gdff ?_ | refine G.gdtf ?_ | refine G.gdft ?_ | (refine G.jk ?_; intro _)))
        refine Gs.callv0 (takes_ok aL _ h7 hS.a (by decide)) ?_
        (repeat (first | refine G.add (by omega) ?_ | refine G.sub (by omega) ?_ | refine G.mul (by omega) ?_ | refine G.neg (by omega) ?_ | refine G.quo (by omega) (by omega) ?_ | refine G.rem (by omega) ?_ | refine G.shr (by omega) ?_ | refine G.conv (by omega) ?_ | refine G.step ?_ | refine G.buildA (by rfl) ?_ | (refine Gs.box ?_; intro _) | (refine Gs.alloc ?_; intro _) | refine Gs.store ?_ | refine G.retc ?_ | refine Gs.dr ?_ | refine G.qadd (by omega) ?_ | refine G.qsub (by omega) ?_ | refine G.qmul (by omega) ?_ | refine G.qneg (by omega) ?_ | refine G.qkp ?_ | refine Gs.qkb ?_ | refine G.withT ?_ | refine Gs.withb ?_ | refine G.ift ?_ | refine G.iff ?_ | refine G.gdtt ?_ | refine G.gdff ?_ | refine G.gdtf ?_ | refine G.gdft ?_ | (refine G.jk ?_; intro _)))
        refine Gs.callv0 (takes_ok bL _ h7 hS.b (by decide)) ?_
        (repeat (first | refine G.add (by omega) ?_ | refine G.sub (by omega) ?_ | refine G.mul (by omega) ?_ | refine G.neg (by omega) ?_ | refine G.quo (by omega) (by omega) ?_ | refine G.rem (by omega) ?_ | refine G.shr (by omega) ?_ | refine G.conv (by omega) ?_ | refine G.step ?_ | refine G.buildA (by rfl) ?_ | (refine Gs.box ?_; intro _) | (refine Gs.alloc ?_; intro _) | refine Gs.store ?_ | refine G.retc ?_ | refine Gs.dr ?_ | refine G.qadd (by omega) ?_ | refine G.qsub (by omega) ?_ | refine G.qmul (by omega) ?_ | refine G.qneg (by omega) ?_ | refine G.qkp ?_ | refine Gs.qkb ?_ | refine G.withT ?_ | refine Gs.withb ?_ | refine G.ift ?_ | refine G.iff ?_ | refine G.gdtt ?_ | refine G.gdff ?_ | refine G.gdtf ?_ | refine G.gdft ?_ | (refine G.jk ?_; intro _)))
        refine G.or2 ?_ ?_
        · refine dirsA hS ?_
          intro h8 hS
          (repeat (first | refine G.add (by omega) ?_ | refine G.sub (by omega) ?_ | refine G.mul (by omega) ?_ | refine G.neg (by omega) ?_ | refine G.quo (by omega) (by omega) ?_ | refine G.rem (by omega) ?_ | refine G.shr (by omega) ?_ | refine G.conv (by omega) ?_ | refine G.step ?_ | refine G.buildA (by rfl) ?_ | (refine Gs.box ?_; intro _) | (refine Gs.alloc ?_; intro _) | refine Gs.store ?_ | refine G.retc ?_ | refine Gs.dr ?_ | refine G.qadd (by omega) ?_ | refine G.qsub (by omega) ?_ | refine G.qmul (by omega) ?_ | refine G.qneg (by omega) ?_ | refine G.qkp ?_ | refine Gs.qkb ?_ | refine G.withT ?_ | refine Gs.withb ?_ | refine G.ift ?_ | refine G.iff ?_ | refine G.gdtt ?_ | refine G.gdff ?_ | refine G.gdtf ?_ | refine G.gdft ?_ | (refine G.jk ?_; intro _)))
          refine G.or2 ?_ ?_
          · refine dirsB hS ?_
            intro h9 hS
            (repeat (first | refine G.add (by omega) ?_ | refine G.sub (by omega) ?_ | refine G.mul (by omega) ?_ | refine G.neg (by omega) ?_ | refine G.quo (by omega) (by omega) ?_ | refine G.rem (by omega) ?_ | refine G.shr (by omega) ?_ | refine G.conv (by omega) ?_ | refine G.step ?_ | refine G.buildA (by rfl) ?_ | (refine Gs.box ?_; intro _) | (refine Gs.alloc ?_; intro _) | refine Gs.store ?_ | refine G.retc ?_ | refine Gs.dr ?_ | refine G.qadd (by omega) ?_ | refine G.qsub (by omega) ?_ | refine G.qmul (by omega) ?_ | refine G.qneg (by omega) ?_ | refine G.qkp ?_ | refine Gs.qkb ?_ | refine G.withT ?_ | refine Gs.withb ?_ | refine G.ift ?_ | refine G.iff ?_ | refine G.gdtt ?_ | refine G.gdff ?_ | refine G.gdtf ?_ | refine G.gdft ?_ | (refine G.jk ?_; intro _)))
            exact endS_ok hS fun h => Gs.ret rfl
          · refine dirsB' hS ?_
            intro h9 hS
            (repeat (first | refine G.add (by omega) ?_ | refine G.sub (by omega) ?_ | refine G.mul (by omega) ?_ | refine G.neg (by omega) ?_ | refine G.quo (by omega) (by omega) ?_ | refine G.rem (by omega) ?_ | refine G.shr (by omega) ?_ | refine G.conv (by omega) ?_ | refine G.step ?_ | refine G.buildA (by rfl) ?_ | (refine Gs.box ?_; intro _) | (refine Gs.alloc ?_; intro _) | refine Gs.store ?_ | refine G.retc ?_ | refine Gs.dr ?_ | refine G.qadd (by omega) ?_ | refine G.qsub (by omega) ?_ | refine G.qmul (by omega) ?_ | refine G.qneg (by omega) ?_ | refine G.qkp ?_ | refine Gs.qkb ?_ | refine G.withT ?_ | refine Gs.withb ?_ | refine G.ift ?_ | refine G.iff ?_ | refine G.gdtt ?_ | refine G.gdff ?_ | refine G.gdtf ?_ | refine G.gdft ?_ | (refine G.jk ?_; intro _)))
            exact endS_ok hS fun h => Gs.ret rfl
        · refine dirsA' hS ?_
          intro h8 hS
          (repeat (first | refine G.add (by omega) ?_ | refine G.sub (by omega) ?_ | refine G.mul (by omega) ?_ | refine G.neg (by omega) ?_ | refine G.quo (by omega) (by omega) ?_ | refine G.rem (by omega) ?_ | refine G.shr (by omega) ?_ | refine G.conv (by omega) ?_ | refine G.step ?_ | refine G.buildA (by rfl) ?_ | (refine Gs.box ?_; intro _) | (refine Gs.alloc ?_; intro _) | refine Gs.store ?_ | refine G.retc ?_ | refine Gs.dr ?_ | refine G.qadd (by omega) ?_ | refine G.qsub (by omega) ?_ | refine G.qmul (by omega) ?_ | refine G.qneg (by omega) ?_ | refine G.qkp ?_ | refine Gs.qkb ?_ | refine G.withT ?_ | refine Gs.withb ?_ | refine G.ift ?_ | refine G.iff ?_ | refine G.gdtt ?_ | refine G.gdff ?_ | refine G.gdtf ?_ | refine G.gdft ?_ | (refine G.jk ?_; intro _)))
          refine G.or2 ?_ ?_
          · refine dirsB hS ?_
            intro h9 hS
            (repeat (first | refine G.add (by omega) ?_ | refine G.sub (by omega) ?_ | refine G.mul (by omega) ?_ | refine G.neg (by omega) ?_ | refine G.quo (by omega) (by omega) ?_ | refine G.rem (by omega) ?_ | refine G.shr (by omega) ?_ | refine G.conv (by omega) ?_ | refine G.step ?_ | refine G.buildA (by rfl) ?_ | (refine Gs.box ?_; intro _) | (refine Gs.alloc ?_; intro _) | refine Gs.store ?_ | refine G.retc ?_ | refine Gs.dr ?_ | refine G.qadd (by omega) ?_ | refine G.qsub (by omega) ?_ | refine G.qmul (by omega) ?_ | refine G.qneg (by omega) ?_ | refine G.qkp ?_ | refine Gs.qkb ?_ | refine G.withT ?_ | refine Gs.withb ?_ | refine G.ift ?_ | refine G.iff ?_ | refine G.gdtt ?_ | refine G.gdff ?_ | refine G.gdtf ?_ | refine G.gdft ?_ | (refine G.jk ?_; intro _)))
            exact endS_ok hS fun h => Gs.ret rfl
          · refine dirsB' hS ?_
            intro h9 hS
            (repeat (first | refine G.add (by omega) ?_ | refine G.sub (by omega) ?_ | refine G.mul (by omega) ?_ | refine G.neg (by omega) ?_ | refine G.quo (by omega) (by omega) ?_ | refine G.rem (by omega) ?_ | refine G.shr (by omega) ?_ | refine G.conv (by omega) ?_ | refine G.step ?_ | refine G.buildA (by rfl) ?_ | (refine Gs.box ?_; intro _) | (refine Gs.alloc ?_; intro _) | refine Gs.store ?_ | refine G.retc ?_ | refine Gs.dr ?_ | refine G.qadd (by omega) ?_ | refine G.qsub (by omega) ?_ | refine G.qmul (by omega) ?_ | refine G.qneg (by omega) ?_ | refine G.qkp ?_ | refine Gs.qkb ?_ | refine G.withT ?_ | refine Gs.withb ?_ | refine G.ift ?_ | refine G.iff ?_ | refine G.gdtt ?_ | refine G.gdff ?_ | refine G.gdtf ?_ | refine G.gdft ?_ | (refine G.jk ?_; intro _)))
            exact endS_ok hS fun h => Gs.ret rfl
    · intro k hk
      refine Gs.callv0 (print_ok aL _ h3 hE ha (by decide)) ?_
      rw [print_a]
      (repeat (first | refine G.add (by omega) ?_ | refine G.sub (by omega) ?_ | refine G.mul (by omega) ?_ | refine G.neg (by omega) ?_ | refine G.quo (by omega) (by omega) ?_ | refine G.rem (by omega) ?_ | refine G.shr (by omega) ?_ | refine G.conv (by omega) ?_ | refine G.step ?_ | refine G.buildA (by rfl) ?_ | (refine Gs.box ?_; intro _) | (refine Gs.alloc ?_; intro _) | refine Gs.store ?_ | refine G.retc ?_ | refine Gs.dr ?_ | refine G.qadd (by omega) ?_ | refine G.qsub (by omega) ?_ | refine G.qmul (by omega) ?_ | refine G.qneg (by omega) ?_ | refine G.qkp ?_ | refine Gs.qkb ?_ | refine G.withT ?_ | refine Gs.withb ?_ | refine G.ift ?_ | refine G.iff ?_ | refine G.gdtt ?_ | refine G.gdff ?_ | refine G.gdtf ?_ | refine G.gdft ?_ | (refine G.jk ?_; intro _)))
      refine Gs.callv0 (print_ok bL _ h3 hE hb (by decide)) ?_
      rw [print_b]
      (repeat (first | refine G.add (by omega) ?_ | refine G.sub (by omega) ?_ | refine G.mul (by omega) ?_ | refine G.neg (by omega) ?_ | refine G.quo (by omega) (by omega) ?_ | refine G.rem (by omega) ?_ | refine G.shr (by omega) ?_ | refine G.conv (by omega) ?_ | refine G.step ?_ | refine G.buildA (by rfl) ?_ | (refine Gs.box ?_; intro _) | (refine Gs.alloc ?_; intro _) | refine Gs.store ?_ | refine G.retc ?_ | refine Gs.dr ?_ | refine G.qadd (by omega) ?_ | refine G.qsub (by omega) ?_ | refine G.qmul (by omega) ?_ | refine G.qneg (by omega) ?_ | refine G.qkp ?_ | refine Gs.qkb ?_ | refine G.withT ?_ | refine Gs.withb ?_ | refine G.ift ?_ | refine G.iff ?_ | refine G.gdtt ?_ | refine G.gdff ?_ | refine G.gdtf ?_ | refine G.gdft ?_ | (refine G.jk ?_; intro _)))
      refine Gs.callv0 (same_ok bL bL v' _ h3 hr hb (by decide) (by decide)) ?_
      (repeat (first | refine G.add (by omega) ?_ | refine G.sub (by omega) ?_ | refine G.mul (by omega) ?_ | refine G.neg (by omega) ?_ | refine G.quo (by omega) (by omega) ?_ | refine G.rem (by omega) ?_ | refine G.shr (by omega) ?_ | refine G.conv (by omega) ?_ | refine G.step ?_ | refine G.buildA (by rfl) ?_ | (refine Gs.box ?_; intro _) | (refine Gs.alloc ?_; intro _) | refine Gs.store ?_ | refine G.retc ?_ | refine Gs.dr ?_ | refine G.qadd (by omega) ?_ | refine G.qsub (by omega) ?_ | refine G.qmul (by omega) ?_ | refine G.qneg (by omega) ?_ | refine G.qkp ?_ | refine Gs.qkb ?_ | refine G.withT ?_ | refine Gs.withb ?_ | refine G.ift ?_ | refine G.iff ?_ | refine G.gdtt ?_ | refine G.gdff ?_ | refine G.gdtf ?_ | refine G.gdft ?_ | (refine G.jk ?_; intro _)))
      refine Gs.callv0 (print_ok [] _ h3 hE (RdE.nil _ _ _) (by decide)) ?_
      rw [print_nil]
      (repeat (first | refine G.add (by omega) ?_ | refine G.sub (by omega) ?_ | refine G.mul (by omega) ?_ | refine G.neg (by omega) ?_ | refine G.quo (by omega) (by omega) ?_ | refine G.rem (by omega) ?_ | refine G.shr (by omega) ?_ | refine G.conv (by omega) ?_ | refine G.step ?_ | refine G.buildA (by rfl) ?_ | (refine Gs.box ?_; intro _) | (refine Gs.alloc ?_; intro _) | refine Gs.store ?_ | refine G.retc ?_ | refine Gs.dr ?_ | refine G.qadd (by omega) ?_ | refine G.qsub (by omega) ?_ | refine G.qmul (by omega) ?_ | refine G.qneg (by omega) ?_ | refine G.qkp ?_ | refine Gs.qkb ?_ | refine G.withT ?_ | refine Gs.withb ?_ | refine G.ift ?_ | refine G.iff ?_ | refine G.gdtt ?_ | refine G.gdff ?_ | refine G.gdtf ?_ | refine G.gdft ?_ | (refine G.jk ?_; intro _)))
      exact hk _ rfl
  · exact absurd print_b (hno bL valid_b)
end Go.Proofs.YtlljhipmnkdpeaaGreatDoor
end

section
set_option linter.unusedVariables false
set_option maxHeartbeats 4000000
namespace Go.Proofs.YtlljhipmnkdpeaaGreatDoor
open Go Go.Sk Go.Pr Go.RowKit
instance ix24_0 {S : WP} {b : Nat} : Yd Tryz.prog S (V (Instr.indexAt 24 (ptr b 0) (.int .i64 0))) (ptr b 0) := Yd.ixA (sz := 1) (e := 3) (n := 3) ⟨by decide, by decide⟩ rfl
instance ix24_1 {S : WP} {b : Nat} : Yd Tryz.prog S (V (Instr.indexAt 24 (ptr b 0) (.int .i64 1))) (ptr b 1) := Yd.ixA (sz := 1) (e := 3) (n := 3) ⟨by decide, by decide⟩ rfl
instance ix24_2 {S : WP} {b : Nat} : Yd Tryz.prog S (V (Instr.indexAt 24 (ptr b 0) (.int .i64 2))) (ptr b 2) := Yd.ixA (sz := 1) (e := 3) (n := 3) ⟨by decide, by decide⟩ rfl
instance ix54_0 {S : WP} {b : Nat} : Yd Tryz.prog S (V (Instr.indexAt 54 (ptr b 0) (.int .i64 0))) (ptr b 0) := Yd.ixA (sz := 1) (e := 5) (n := 3) ⟨by decide, by decide⟩ rfl
instance ix54_1 {S : WP} {b : Nat} : Yd Tryz.prog S (V (Instr.indexAt 54 (ptr b 0) (.int .i64 1))) (ptr b 1) := Yd.ixA (sz := 1) (e := 5) (n := 3) ⟨by decide, by decide⟩ rfl
instance ix54_2 {S : WP} {b : Nat} : Yd Tryz.prog S (V (Instr.indexAt 54 (ptr b 0) (.int .i64 2))) (ptr b 2) := Yd.ixA (sz := 1) (e := 5) (n := 3) ⟨by decide, by decide⟩ rfl
instance ix42_0 {S : WP} {b : Nat} : Yd Tryz.prog S (V (Instr.indexAt 42 (ptr b 0) (.int .i64 0))) (ptr b 0) := Yd.ixA (sz := 1) (e := 5) (n := 2) ⟨by decide, by decide⟩ rfl
instance ix42_1 {S : WP} {b : Nat} : Yd Tryz.prog S (V (Instr.indexAt 42 (ptr b 0) (.int .i64 1))) (ptr b 1) := Yd.ixA (sz := 1) (e := 5) (n := 2) ⟨by decide, by decide⟩ rfl
instance ix37_0 {S : WP} {b : Nat} : Yd Tryz.prog S (V (Instr.indexAt 37 (ptr b 0) (.int .i64 0))) (ptr b 0) := Yd.ixA (sz := 1) (e := 22) (n := 2) ⟨by decide, by decide⟩ rfl
instance ix37_1 {S : WP} {b : Nat} : Yd Tryz.prog S (V (Instr.indexAt 37 (ptr b 0) (.int .i64 1))) (ptr b 1) := Yd.ixA (sz := 1) (e := 22) (n := 2) ⟨by decide, by decide⟩ rfl
theorem Yd.rem8 {P : Program} {S : WP} {t : TypeId} {a b : Int} (ha : 0 ≤ a) (hb : b ≠ 0) : Yd P S (V (binOp .rem t (.int .u8 a) (.int .u8 b))) (.int .u8 (a % b)) := Yd.of fun w => by
  simp only [binOp, ne_eq, not_true, if_false, Op.intDiv, if_neg hb, Int.tmod_eq_emod_of_nonneg ha]
  rfl
theorem G.rem8 {P : Program} {S : WP} {K : Value → WP} {t : TypeId} {a b : Int} (ha : 0 ≤ a) (hb : b ≠ 0) (hk : G S (K (.int .u8 (a % b)))) : G S (Do P (V (binOp .rem t (.int .u8 a) (.int .u8 b))) K) :=
  haveI := Yd.rem8 (P := P) (S := S) (t := t) ha hb
  G.step hk
theorem G.qrem8 {P : Program} {S : WP} {K : WP → Value → WP} {t : TypeId} {a b : Int} (ha : 0 ≤ a) (hb : b ≠ 0) (hk : G S (K TrueC (.int .u8 (a % b)))) : G S (Qk P (V (binOp .rem t (.int .u8 a) (.int .u8 b))) K) :=
  haveI := Yd.rem8 (P := P) (S := TrueC) (t := t) ha hb
  G.qkp hk
theorem G.qconv {P : Program} {S : WP} {K : WP → Value → WP} {s d : TypeId} {k' : IntKind} {n : Int} [h1 : TInt P s k'] [h : TInt P d .i64] (hr : -9223372036854775808 ≤ n ∧ n ≤ 9223372036854775807) (hk : G S (K TrueC (I n))) : G S (Qk P (V (convert s d (.int k' n))) K) :=
  G.qkp (v := .int .i64 (IntKind.i64.wrap n)) (by rw [wrap_in hr]; exact hk)
theorem Yd.buildA {P : Program} {S : WP} {t n e sz : Nat} {z out : List Value} {parts : List (Nat × Value)} [ht : TArr P t n e sz] [hz : TZero P t z] [hp : Parts 0 parts sz out] (hl : z.length = parts.length * sz) : Yd P S (vBuild t parts) (.agg out.toArray) := ⟨fun w _ => by
  obtain ⟨i', zv, h6, h7, h8⟩ := hz.spec
  have h := ht.ok
  unfold arrB at h
  cases hu : P.underlying t with
  | none => rw [hu] at h; cases h
  | some d =>
    rw [hu] at h
    cases d <;> try (cases h; done)
    rename_i n' e'
    cases hi' : P.info? e with
    | none => rw [hi'] at h; cases h
    | some inf =>
      rw [hi'] at h
      simp only [Bool.and_eq_true] at h
      obtain ⟨⟨g1, g2⟩, g3⟩ := h
      have g2 := Nat.eq_of_beq_eq_true g2
      have g3 := Nat.eq_of_beq_eq_true g3
      subst g2
      unfold vBuild
      refine V_run ?_
      unfold Instr.build
      simp only [Sem.run_bind, run_zeroValue h6 h7, Result.andThen_ok, runU hu, h8, Go.Sk.run_sizeOf hi', g3]
      have := hp.ok [] z (by simp) hl
      simp only [List.nil_append] at this
      rw [this]
      rfl⟩
theorem G.qbuildA {P : Program} {S : WP} {K : WP → Value → WP} {t n e sz : Nat} {z out : List Value} {parts : List (Nat × Value)} [ht : TArr P t n e sz] [hz : TZero P t z] [hp : Parts 0 parts sz out] (hl : z.length = parts.length * sz) (hk : G S (K TrueC (.agg out.toArray))) : G S (Qk P (vBuild t parts) K) :=
  haveI := Yd.buildA (P := P) (S := TrueC) (t := t) hl
  G.qkp hk
/-- A slice of bytes, as a law's parameter. -/
structure U8s (h : Hp) (v : Value) (l : List Int) : Prop where
  rd : RdE h v eU 1 l
  bd : ∀ n ∈ l, 0 ≤ n ∧ n ≤ 255
  len : l.length ≤ 9223372036854775807
theorem U8s.mono {h h' : Hp} {v : Value} {l : List Int} (hle : Hle h h') (s : U8s h v l) : U8s h' v l := ⟨s.rd.mono hle, s.bd, s.len⟩
theorem Tight.rd {h : Hp} {v : Value} {l : List Stp} (t : Tight h v l) : RdE h v encP 2 l := by
  obtain ⟨_, _, hr⟩ := t
  exact hr
theorem Tight.mono {h h' : Hp} {v : Value} {l : List Stp} (hle : Hle h h') (t : Tight h v l) : Tight h' v l := by
  obtain ⟨a, e, hr⟩ := t
  exact ⟨a, e, hr.mono hle⟩
theorem valid_of {l : List Stp} {d k r : Int} (h0 : 0 < l.length) (h8 : l.length ≤ 8) (ha : allB l d k r = true) (h6 : cnt l 6 ≤ 2) (h7 : cnt l 7 ≤ 1) (hb : cnt l 8 ≤ 1) : validB l d k r = true := decide_eq_true ⟨h0, h8, ha, h6, h7, hb⟩
theorem lib_cases {P : List Stp → Prop} (l : List Int)
    (h : ∀ d e k r : Int, 0 ≤ d → d < 8 → 0 ≤ e → e < 8 → 0 ≤ k → k < 6 → 0 ≤ r → r < 4 → ∀ i : Nat, i < 16 → P ((libT d e k r).getD i [])) : P (lib l) := by
  unfold lib
  exact h _ _ _ _ (by omega) (by omega) (by omega) (by omega) (by omega) (by omega) (by omega) (by omega) _ (by omega)
theorem stepT {op n : Int} (h1 : 1 ≤ op) (h2 : op ≤ 10) (h3 : 0 ≤ n) (h4 : n < lim 8 6 4 (num op)) : stepB (op, n) 8 6 4 = true := decide_eq_true ⟨h1, h2, h3, h4⟩
theorem RdE.form {α : Type} {h : Hp} {v : Value} {enc : α → List Value} {sz : Nat} {l : List α} (hr : RdE h v enc sz l) : ∃ a cap, v = .slice a l.length cap := by
  obtain ⟨_, a, cap, e, _⟩ := hr
  exact ⟨a, cap, e⟩
theorem lib_valid (l : List Int) : validB (lib l) 8 6 4 = true := by
  refine lib_cases (P := fun p => validB p 8 6 4 = true) l ?_
  intro d e k r d0 d8 e0 e8 k0 k6 r0 r4 i hi
  have sd : ∀ d, 0 ≤ d → d < 8 → stepB (1, d) 8 6 4 = true := fun d h1 h2 => stepT (by decide) (by decide) h1 h2
  have s1 := sd d d0 d8
  have s2 := sd e e0 e8
  have s3 := sd ((d + 4) % 8) (by omega) (by omega)
  have s4 : stepB (2, d) 8 6 4 = true := stepT (by decide) (by decide) d0 d8
  have s5 : stepB (7, d) 8 6 4 = true := stepT (by decide) (by decide) d0 d8
  have s6 : stepB (8, k) 8 6 4 = true := stepT (by decide) (by decide) k0 k6
  have s7 : stepB (9, r) 8 6 4 = true := stepT (by decide) (by decide) r0 r4
  have s8 : stepB (10, r) 8 6 4 = true := stepT (by decide) (by decide) r0 r4
  have z3 : stepB (3, 0) 8 6 4 = true := rfl
  have z4 : stepB (4, 0) 8 6 4 = true := rfl
  have z5 : stepB (5, 0) 8 6 4 = true := rfl
  have z6 : stepB (6, 0) 8 6 4 = true := rfl
  have hc : i = 0 ∨ i = 1 ∨ i = 2 ∨ i = 3 ∨ i = 4 ∨ i = 5 ∨ i = 6 ∨ i = 7 ∨ i = 8 ∨ i = 9 ∨ i = 10 ∨ i = 11 ∨ i = 12 ∨ i = 13 ∨ i = 14 ∨ i = 15 := by omega
  rcases hc with rfl | rfl | rfl | rfl | rfl | rfl | rfl | rfl | rfl | rfl | rfl | rfl | rfl | rfl | rfl | rfl
  all_goals
    exact valid_of (Nat.le_of_ble_eq_true rfl) (Nat.le_of_ble_eq_true rfl) (by simp only [libT, List.getD_cons_zero, List.getD_cons_succ, allB, List.all_cons, List.all_nil, s1, s2, s3, s4, s5, s6, s7, s8, z3, z4, z5, z6, Bool.and_self]) (Nat.le_of_ble_eq_true rfl) (Nat.le_of_ble_eq_true rfl) (Nat.le_of_ble_eq_true rfl)
theorem lib_len (l : List Int) : 0 < (lib l).length ∧ (lib l).length ≤ 8 := ⟨(valid_parts (lib_valid l)).1, (valid_parts (lib_valid l)).2.1⟩
section
variable {w0 : World} {h0 h : Hp} {L : List Itm} {K : Value → WP} {v u : Value}
theorem sanity_call (hE : Env h) (hk : Gs w0 h0 h L (K (.bool true))) : Gs w0 h0 h L (Do Tryz.prog (vCall (.func (.func 10) #[] ⟨[]⟩) []) K) := Gs.callv0 (sanity_ok h hE) hk
theorem lib_call {l : List Int} (hl : U8s h v l) (hk : ∀ h' x, Hle h h' → Tight h' x (lib l) → Gs w0 h0 h' L (K x)) : Gs w0 h0 h L (Do Tryz.prog (vCall (.func (.func 11) #[] ⟨[]⟩) [v]) K) :=
  Gs.call0 (Lib_ok l v h hl.rd hl.bd hl.len) fun x h' hle hr => hk h' x hle hr
theorem short_call {l : List Stp} (hl : RdE h v encP 2 l) (h63 : l.length ≤ 9223372036854775807) (hk : ∀ h' x, Hle h h' → RdE h' x encP 2 (l.take 12) → Gs w0 h0 h' L (K x)) : Gs w0 h0 h L (Do Tryz.prog (vCall (.func (.func 12) #[] ⟨[]⟩) [v]) K) :=
  Gs.call0 (short_ok l v h hl h63) fun x h' hle hr => hk h' x hle hr
theorem rvalid_call (l : List Stp) (d k r : Int) (hr : RdE h v encP 2 l) (hl : l.length ≤ 1000000) {b : Bool} (hb : validB l d k r = b) (hk : Gs w0 h0 h L (K (.bool b))) : Gs w0 h0 h L (Do Tryz.prog (vCall (.func (.func 14) #[] ⟨[]⟩) [v, I d, I k, I r]) K) := Gs.callv0 (rvalid_ok l v d k r h hr hl) (by rw [hb]; exact hk)
theorem print_call (l : List Stp) (hE : Env h) (hr : RdE h v encP 2 l) (hl : l.length ≤ 1000000) (hk : Gs w0 h0 h L (K (Str (printP l)))) : Gs w0 h0 h L (Do Tryz.prog (vCall (.func (.func 20) #[] ⟨[]⟩) [v]) K) := Gs.callv0 (print_ok l v h hE hr hl) hk
theorem rprint_call (l : List Stp) (hr : RdE h v encP 2 l) (hl : l.length ≤ 1000000) (hk : Gs w0 h0 h L (K (Str (printP l)))) : Gs w0 h0 h L (Do Tryz.prog (vCall (.func (.func 21) #[] ⟨[]⟩) [v]) K) := Gs.callv0 (rprint_ok l v h hr hl) hk
theorem takes_call (l : List Stp) (hr : RdE h v encP 2 l) (hl : l.length ≤ 1000000) (hk : Gs w0 h0 h L (K (.bool (decide (0 < cnt l 6))))) : Gs w0 h0 h L (Do Tryz.prog (vCall (.func (.func 15) #[] ⟨[]⟩) [v]) K) := Gs.callv0 (takes_ok l v h hr hl) hk
theorem rtakes_call (l : List Stp) (hr : RdE h v encP 2 l) (hl : l.length ≤ 1000000) (hk : Gs w0 h0 h L (K (.bool (decide (0 < cnt l 6))))) : Gs w0 h0 h L (Do Tryz.prog (vCall (.func (.func 16) #[] ⟨[]⟩) [v]) K) := Gs.callv0 (rtakes_ok l v h hr hl) hk
theorem rdirs_call (l : List Stp) (hr : RdE h v encP 2 l) (hl : l.length ≤ 100000) (hk : ∀ h' x, Hle h h' → RdE h' x eInt 1 (dirs l) → Gs w0 h0 h' L (K x)) : Gs w0 h0 h L (Do Tryz.prog (vCall (.func (.func 19) #[] ⟨[]⟩) [v]) K) :=
  Gs.call0 (rDirs_ok l v h hr hl) fun x h' hle hr' => hk h' x hle hr'
theorem same_call (l m : List Stp) (hr : RdE h v encP 2 l) (hq : RdE h u encP 2 m) (hl : l.length ≤ 1000000) (hm : m.length ≤ 1000000) (hk : Gs w0 h0 h L (K (.bool (decide (l = m))))) : Gs w0 h0 h L (Do Tryz.prog (vCall (.func (.func 24) #[] ⟨[]⟩) [v, u]) K) := Gs.callv0 (same_ok l m v u h hr hq hl hm) hk
theorem sameI_call (l m : List Int) (hr : RdE h v eInt 1 l) (hq : RdE h u eInt 1 m) (hl : l.length ≤ 1000000) (hm : m.length ≤ 1000000) (hk : Gs w0 h0 h L (K (.bool (decide (l = m))))) : Gs w0 h0 h L (Do Tryz.prog (vCall (.func (.func 17) #[] ⟨[]⟩) [v, u]) K) := Gs.callv0 (sameInts_ok l m v u h hr hq hl hm) hk
theorem steps_call (hk : ∀ h' x, Hle h h' → RdE h' x encP 2 stepsL → Gs w0 h0 h' L (K x)) : Gs w0 h0 h L (Do Tryz.prog (vCall (.func (.func 22) #[] ⟨[]⟩) []) K) :=
  Gs.call0 (Steps_ok h) fun x h' hle hr' => hk h' x hle hr'
/-- Reading the text of a valid program. -/
theorem parse_call (l : List Stp) (hv : validB l 8 6 4 = true) (hE : Env h) (hk : ∀ h' x, Hle h h' → RdE h' x encP 2 l → Gs w0 h0 h' L (K (.tuple #[x, I 0]))) : Gs w0 h0 h L (Do Tryz.prog (vCall (.func (.func 23) #[] ⟨[]⟩) [Str (printP l)]) K) :=
  Gs.call0 (Parse_ok (printP l) h hE (Nat.le_trans (print_len l) (by decide))) fun x h' hle hp => by
    rcases hp with ⟨m, v', hm, hmp, rfl, hr⟩ | ⟨hno, _⟩
    · have := print_inj hm hv hmp
      subst this
      exact hk h' v' hle hr
    · exact absurd rfl (hno l hv)
end
theorem dirs_len (l : List Stp) : (dirs l).length ≤ l.length := by
  rw [← rdirs_eq]
  obtain ⟨_, _, h3⟩ := fold_facts (leadsN l) [] List.Pairwise.nil
  have h4 := leadsN_len l
  unfold rdirs
  simp at h3
  omega
end Go.Proofs.YtlljhipmnkdpeaaGreatDoor
end

