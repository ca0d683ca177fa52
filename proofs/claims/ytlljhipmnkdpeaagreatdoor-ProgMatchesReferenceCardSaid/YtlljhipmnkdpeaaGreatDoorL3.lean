/-
  Lemmas for the proof of the statement of this claim: a part of the road, no statement of its own. Conditions: those that each lemma names.
-/
import Derived.Test.YtlljhipmnkdpeaaGreatDoorKd
set_option linter.unusedVariables false
set_option maxHeartbeats 4000000
namespace Go.Proofs.YtlljhipmnkdpeaaGreatDoor
open Go Go.Sk Go.Pr Go.RowKit
theorem match_ok (l : List Int) (raw : List Stp) (v u : Value) (a b c : Int) (h : Hp) (hE : Env h) (hl : U8s h v l) (hr : RdE h u encP 2 raw) (h63 : raw.length ≤ 9223372036854775807) :
    Ct Tryz.prog 3 [v, u, .agg #[I a, I b, I c]] h (fun _ x => x = .bool true) := by
  refine ct3 ?_
  intro w0
  unfold s3
  (repeat (first | refine G.add (by omega) ?_ | refine G.sub (by omega) ?_ | refine G.mul (by omega) ?_ | refine G.neg (by omega) ?_ | refine G.quo (by omega) (by omega) ?_ | refine G.rem (by omega) ?_ | refine G.shr (by omega) ?_ | refine G.conv (by omega) ?_ | refine G.step ?_ | refine G.buildA (by rfl) ?_ | (refine Gs.box ?_; intro _) | (refine Gs.alloc ?_; intro _) | refine Gs.store ?_ | refine G.retc ?_ | refine Gs.dr ?_ | refine G.qadd (by omega) ?_ | refine G.qsub (by omega) ?_ | refine G.qmul (by omega) ?_ | refine G.qneg (by omega) ?_ | refine G.qkp ?_ | refine Gs.qkb ?_ | refine G.withT ?_ | refine Gs.withb ?_ | refine G.ift ?_ | refine G.iff ?_ | refine G.gdtt ?_ | refine G.gdff ?_ | refine G.gdtf ?_ | refine G.gdft ?_ | (refine G.jk ?_; intro _)))
  rename_i w1
  refine sanity_call hE ?_
  refine lib_call hl ?_
  intro h1 p1 hle1 t1
  refine short_call (hr.mono hle1) h63 ?_
  intro h2 p2 hle2 r2
  have hle2' := hle1.trans hle2
  refine lib_call (hl.mono hle2') ?_
  intro h3 p3 hle3 t3
  have hle3' := hle2'.trans hle3
  refine short_call (hr.mono hle3') h63 ?_
  intro h4 p4 hle4 r4
  obtain ⟨a3, rfl, r3⟩ := t3.mono hle4
  have hlib := lib_len l
  have hsh : (raw.take 12).length ≤ 12 := by rw [List.length_take]; omega
  refine Gs.appendF r3 (SrcG.ofRd r4) (by omega) (by omega) ?_
  intro p5 h5 hle5 r5
  have hle45 := hle4.trans hle5
  have t1 := (t1.rd.mono hle2).mono (hle3.trans hle45)
  have r2 := r2.mono (hle3.trans hle45)
  have hE := hE.mono (hle3'.trans hle45)
  obtain ⟨a1, c1, rfl⟩ := RdE.form t1
  obtain ⟨a2, c2, rfl⟩ := RdE.form r2
  obtain ⟨a5, c5, rfl⟩ := RdE.form r5
  have hps : ∀ x ∈ [(a1, (lib l).length, c1), (a2, (raw.take 12).length, c2), (a5, (lib l ++ raw.take 12).length, c5)], ∃ m : List Stp, RdE h5 (.slice x.1 x.2.1 x.2.2) encP 2 m ∧ m.length ≤ 20 := by
    intro x hx
    simp only [List.mem_cons, List.not_mem_nil, or_false] at hx
    rcases hx with rfl | rfl | rfl
    · exact ⟨_, t1, by omega⟩
    · exact ⟨_, r2, by omega⟩
    · exact ⟨_, r5, by rw [List.length_append]; omega⟩
  clear t1 r2 r5 r4 t3 r3 hlib hsh
  generalize (lib l).length = n1 at *
  generalize (raw.take 12).length = n2 at *
  generalize (lib l ++ raw.take 12).length = n5 at *
  refine Gs.buildSlice (by decide) ?_
  intro bb
  refine Gs.freezeE (v := .slice (some ⟨bb, 0, none⟩) 3 3) (enc := eSl) (l := [(a1, n1, c1), (a2, n2, c2), (a5, n5, c5)]) (by decide) ?_
  intro h6 hle6 rP
  have hE := hE.mono hle6
  have hps : ∀ x ∈ [(a1, n1, c1), (a2, n2, c2), (a5, n5, c5)], ∃ m : List Stp, RdE h6 (.slice x.1 x.2.1 x.2.2) encP 2 m ∧ m.length ≤ 20 := fun x hx => by
    obtain ⟨m, h1, h2⟩ := hps x hx
    exact ⟨m, h1.mono hle6, h2⟩
  have hlen : [(a1, n1, c1), (a2, n2, c2), (a5, n5, c5)].length = 3 := rfl
  generalize [(a1, n1, c1), (a2, n2, c2), (a5, n5, c5)] = ps at *
  refine Gs.lp (β := Nat × Hp) (fun b => I b.1) (fun b => b.2) (fun _ => [.blk w1 [I a, I b, I c] 24]) (fun b => b.1 ≤ ps.length ∧ Hle h6 b.2) (fun b => ps.length - b.1) (0, h6) rfl ⟨Nat.zero_le _, Hle.refl _⟩ (fun _ h => h) ?_
  rintro ⟨i, h7⟩ ⟨hi, hle7⟩ cont hc
  dsimp only at *
  have rP := rP.mono hle7
  have hE := hE.mono hle7
  (repeat (first | refine G.add (by omega) ?_ | refine G.sub (by omega) ?_ | refine G.mul (by omega) ?_ | refine G.neg (by omega) ?_ | refine G.quo (by omega) (by omega) ?_ | refine G.rem (by omega) ?_ | refine G.shr (by omega) ?_ | refine G.conv (by omega) ?_ | refine G.step ?_ | refine G.buildA (by rfl) ?_ | (refine Gs.box ?_; intro _) | (refine Gs.alloc ?_; intro _) | refine Gs.store ?_ | refine G.retc ?_ | refine Gs.dr ?_ | refine G.qadd (by omega) ?_ | refine G.qsub (by omega) ?_ | refine G.qmul (by omega) ?_ | refine G.qneg (by omega) ?_ | refine G.qkp ?_ | refine Gs.qkb ?_ | refine G.withT ?_ | refine Gs.withb ?_ | refine G.ift ?_ | refine G.iff ?_ | refine G.gdtt ?_ | refine G.gdff ?_ | refine G.gdtf ?_ | refine G.gdft ?_ | (refine G.jk ?_; intro _)))
  refine Gs.lenE rP (by omega) ?_
  (repeat (first | refine G.add (by omega) ?_ | refine G.sub (by omega) ?_ | refine G.mul (by omega) ?_ | refine G.neg (by omega) ?_ | refine G.quo (by omega) (by omega) ?_ | refine G.rem (by omega) ?_ | refine G.shr (by omega) ?_ | refine G.conv (by omega) ?_ | refine G.step ?_ | refine G.buildA (by rfl) ?_ | (refine Gs.box ?_; intro _) | (refine Gs.alloc ?_; intro _) | refine Gs.store ?_ | refine G.retc ?_ | refine Gs.dr ?_ | refine G.qadd (by omega) ?_ | refine G.qsub (by omega) ?_ | refine G.qmul (by omega) ?_ | refine G.qneg (by omega) ?_ | refine G.qkp ?_ | refine Gs.qkb ?_ | refine G.withT ?_ | refine Gs.withb ?_ | refine G.ift ?_ | refine G.iff ?_ | refine G.gdtt ?_ | refine G.gdff ?_ | refine G.gdtf ?_ | refine G.gdft ?_ | (refine G.jk ?_; intro _)))
  refine G.ifd ?_ ?_ <;> intro hlt
  · have hlt' : i < ps.length := by omega
    obtain ⟨m, rM, hm⟩ := hps _ (List.getElem_mem hlt')
    have rM := rM.mono hle7
    refine Gs.indexE rP hlt' ?_
    intro b1 o1 hp1
    refine Gs.loadP1 hp1 ?_
    generalize (Value.slice ps[i].1 ps[i].2.1 ps[i].2.2) = q at *
    refine G.jn ?_
    refine Gs.dr ?_
    (repeat (first | refine G.add (by omega) ?_ | refine G.sub (by omega) ?_ | refine G.mul (by omega) ?_ | refine G.neg (by omega) ?_ | refine G.quo (by omega) (by omega) ?_ | refine G.rem (by omega) ?_ | refine G.shr (by omega) ?_ | refine G.conv (by omega) ?_ | refine G.step ?_ | refine G.buildA (by rfl) ?_ | (refine Gs.box ?_; intro _) | (refine Gs.alloc ?_; intro _) | refine Gs.store ?_ | refine G.retc ?_ | refine Gs.dr ?_ | refine G.qadd (by omega) ?_ | refine G.qsub (by omega) ?_ | refine G.qmul (by omega) ?_ | refine G.qneg (by omega) ?_ | refine G.qkp ?_ | refine Gs.qkb ?_ | refine G.withT ?_ | refine Gs.withb ?_ | refine G.ift ?_ | refine G.iff ?_ | refine G.gdtt ?_ | refine G.gdff ?_ | refine G.gdtf ?_ | refine G.gdft ?_ | (refine G.jk ?_; intro _)))
    refine valid_call m a b c rM (by omega) rfl ?_
    (repeat (first | refine G.add (by omega) ?_ | refine G.sub (by omega) ?_ | refine G.mul (by omega) ?_ | refine G.neg (by omega) ?_ | refine G.quo (by omega) (by omega) ?_ | refine G.rem (by omega) ?_ | refine G.shr (by omega) ?_ | refine G.conv (by omega) ?_ | refine G.step ?_ | refine G.buildA (by rfl) ?_ | (refine Gs.box ?_; intro _) | (refine Gs.alloc ?_; intro _) | refine Gs.store ?_ | refine G.retc ?_ | refine Gs.dr ?_ | refine G.qadd (by omega) ?_ | refine G.qsub (by omega) ?_ | refine G.qmul (by omega) ?_ | refine G.qneg (by omega) ?_ | refine G.qkp ?_ | refine Gs.qkb ?_ | refine G.withT ?_ | refine Gs.withb ?_ | refine G.ift ?_ | refine G.iff ?_ | refine G.gdtt ?_ | refine G.gdff ?_ | refine G.gdtf ?_ | refine G.gdft ?_ | (refine G.jk ?_; intro _)))
    refine rvalid_call m a b c rM (by omega) rfl ?_
    (repeat (first | refine G.add (by omega) ?_ | refine G.sub (by omega) ?_ | refine G.mul (by omega) ?_ | refine G.neg (by omega) ?_ | refine G.quo (by omega) (by omega) ?_ | refine G.rem (by omega) ?_ | refine G.shr (by omega) ?_ | refine G.conv (by omega) ?_ | refine G.step ?_ | refine G.buildA (by rfl) ?_ | (refine Gs.box ?_; intro _) | (refine Gs.alloc ?_; intro _) | refine Gs.store ?_ | refine G.retc ?_ | refine Gs.dr ?_ | refine G.qadd (by omega) ?_ | refine G.qsub (by omega) ?_ | refine G.qmul (by omega) ?_ | refine G.qneg (by omega) ?_ | refine G.qkp ?_ | refine Gs.qkb ?_ | refine G.withT ?_ | refine Gs.withb ?_ | refine G.ift ?_ | refine G.iff ?_ | refine G.gdtt ?_ | refine G.gdff ?_ | refine G.gdtf ?_ | refine G.gdft ?_ | (refine G.jk ?_; intro _)| refine G.gdbn (by first | (simp; done)) ?_ | refine G.gdby (by first | (simp; done)) ?_ | refine G.gdyf (by first | (simp; done) | omega) ?_ | refine G.gdy (by first | (simp; done) | omega) ?_ | refine G.gdn (by first | (simp; done) | omega) ?_ | refine G.gdnf (by first | (simp; done) | omega) ?_ | refine G.ify (by first | (simp; done) | omega) ?_ | refine G.ifn (by first | (simp; done) | omega) ?_))
    refine valid_call m 8 6 4 rM (by omega) rfl ?_
    (repeat (first | refine G.add (by omega) ?_ | refine G.sub (by omega) ?_ | refine G.mul (by omega) ?_ | refine G.neg (by omega) ?_ | refine G.quo (by omega) (by omega) ?_ | refine G.rem (by omega) ?_ | refine G.shr (by omega) ?_ | refine G.conv (by omega) ?_ | refine G.step ?_ | refine G.buildA (by rfl) ?_ | (refine Gs.box ?_; intro _) | (refine Gs.alloc ?_; intro _) | refine Gs.store ?_ | refine G.retc ?_ | refine Gs.dr ?_ | refine G.qadd (by omega) ?_ | refine G.qsub (by omega) ?_ | refine G.qmul (by omega) ?_ | refine G.qneg (by omega) ?_ | refine G.qkp ?_ | refine Gs.qkb ?_ | refine G.withT ?_ | refine Gs.withb ?_ | refine G.ift ?_ | refine G.iff ?_ | refine G.gdtt ?_ | refine G.gdff ?_ | refine G.gdtf ?_ | refine G.gdft ?_ | (refine G.jk ?_; intro _)| refine G.gdbn (by first | (simp; done)) ?_ | refine G.gdby (by first | (simp; done)) ?_ | refine G.gdyf (by first | (simp; done) | omega) ?_ | refine G.gdy (by first | (simp; done) | omega) ?_ | refine G.gdn (by first | (simp; done) | omega) ?_ | refine G.gdnf (by first | (simp; done) | omega) ?_ | refine G.ify (by first | (simp; done) | omega) ?_ | refine G.ifn (by first | (simp; done) | omega) ?_))
    refine rvalid_call m 8 6 4 rM (by omega) rfl ?_
    (repeat (first | refine G.add (by omega) ?_ | refine G.sub (by omega) ?_ | refine G.mul (by omega) ?_ | refine G.neg (by omega) ?_ | refine G.quo (by omega) (by omega) ?_ | refine G.rem (by omega) ?_ | refine G.shr (by omega) ?_ | refine G.conv (by omega) ?_ | refine G.step ?_ | refine G.buildA (by rfl) ?_ | (refine Gs.box ?_; intro _) | (refine Gs.alloc ?_; intro _) | refine Gs.store ?_ | refine G.retc ?_ | refine Gs.dr ?_ | refine G.qadd (by omega) ?_ | refine G.qsub (by omega) ?_ | refine G.qmul (by omega) ?_ | refine G.qneg (by omega) ?_ | refine G.qkp ?_ | refine Gs.qkb ?_ | refine G.withT ?_ | refine Gs.withb ?_ | refine G.ift ?_ | refine G.iff ?_ | refine G.gdtt ?_ | refine G.gdff ?_ | refine G.gdtf ?_ | refine G.gdft ?_ | (refine G.jk ?_; intro _)| refine G.gdbn (by first | (simp; done)) ?_ | refine G.gdby (by first | (simp; done)) ?_ | refine G.gdyf (by first | (simp; done) | omega) ?_ | refine G.gdy (by first | (simp; done) | omega) ?_ | refine G.gdn (by first | (simp; done) | omega) ?_ | refine G.gdnf (by first | (simp; done) | omega) ?_ | refine G.ify (by first | (simp; done) | omega) ?_ | refine G.ifn (by first | (simp; done) | omega) ?_))
    refine takes_call m rM (by omega) ?_
    refine rtakes_call m rM (by omega) ?_
    (repeat (first | refine G.add (by omega) ?_ | refine G.sub (by omega) ?_ | refine G.mul (by omega) ?_ | refine G.neg (by omega) ?_ | refine G.quo (by omega) (by omega) ?_ | refine G.rem (by omega) ?_ | refine G.shr (by omega) ?_ | refine G.conv (by omega) ?_ | refine G.step ?_ | refine G.buildA (by rfl) ?_ | (refine Gs.box ?_; intro _) | (refine Gs.alloc ?_; intro _) | refine Gs.store ?_ | refine G.retc ?_ | refine Gs.dr ?_ | refine G.qadd (by omega) ?_ | refine G.qsub (by omega) ?_ | refine G.qmul (by omega) ?_ | refine G.qneg (by omega) ?_ | refine G.qkp ?_ | refine Gs.qkb ?_ | refine G.withT ?_ | refine Gs.withb ?_ | refine G.ift ?_ | refine G.iff ?_ | refine G.gdtt ?_ | refine G.gdff ?_ | refine G.gdtf ?_ | refine G.gdft ?_ | (refine G.jk ?_; intro _)| refine G.gdbn (by first | (simp; done)) ?_ | refine G.gdby (by first | (simp; done)) ?_ | refine G.gdyf (by first | (simp; done) | omega) ?_ | refine G.gdy (by first | (simp; done) | omega) ?_ | refine G.gdn (by first | (simp; done) | omega) ?_ | refine G.gdnf (by first | (simp; done) | omega) ?_ | refine G.ify (by first | (simp; done) | omega) ?_ | refine G.ifn (by first | (simp; done) | omega) ?_))
    refine dirs_call m _ rM (by omega) rfl ?_
    intro h8 d1 hle8 rd1
    refine rdirs_call m (rM.mono hle8) (by omega) ?_
    intro h9 d2 hle9 rd2
    have rM := (rM.mono hle8).mono hle9
    have hE := (hE.mono hle8).mono hle9
    have hdl := dirs_len m
    refine sameI_call _ _ (rd1.mono hle9) rd2 (by omega) (by omega) ?_
    (repeat (first | refine G.add (by omega) ?_ | refine G.sub (by omega) ?_ | refine G.mul (by omega) ?_ | refine G.neg (by omega) ?_ | refine G.quo (by omega) (by omega) ?_ | refine G.rem (by omega) ?_ | refine G.shr (by omega) ?_ | refine G.conv (by omega) ?_ | refine G.step ?_ | refine G.buildA (by rfl) ?_ | (refine Gs.box ?_; intro _) | (refine Gs.alloc ?_; intro _) | refine Gs.store ?_ | refine G.retc ?_ | refine Gs.dr ?_ | refine G.qadd (by omega) ?_ | refine G.qsub (by omega) ?_ | refine G.qmul (by omega) ?_ | refine G.qneg (by omega) ?_ | refine G.qkp ?_ | refine Gs.qkb ?_ | refine G.withT ?_ | refine Gs.withb ?_ | refine G.ift ?_ | refine G.iff ?_ | refine G.gdtt ?_ | refine G.gdff ?_ | refine G.gdtf ?_ | refine G.gdft ?_ | (refine G.jk ?_; intro _)| refine G.gdbn (by first | (simp; done)) ?_ | refine G.gdby (by first | (simp; done)) ?_ | refine G.gdyf (by first | (simp; done) | omega) ?_ | refine G.gdy (by first | (simp; done) | omega) ?_ | refine G.gdn (by first | (simp; done) | omega) ?_ | refine G.gdnf (by first | (simp; done) | omega) ?_ | refine G.ify (by first | (simp; done) | omega) ?_ | refine G.ifn (by first | (simp; done) | omega) ?_))
    refine print_call m hE rM (by omega) ?_
    refine rprint_call m rM (by omega) ?_
    (repeat (first | refine G.add (by omega) ?_ | refine G.sub (by omega) ?_ | refine G.mul (by omega) ?_ | refine G.neg (by omega) ?_ | refine G.quo (by omega) (by omega) ?_ | refine G.rem (by omega) ?_ | refine G.shr (by omega) ?_ | refine G.conv (by omega) ?_ | refine G.step ?_ | refine G.buildA (by rfl) ?_ | (refine Gs.box ?_; intro _) | (refine Gs.alloc ?_; intro _) | refine Gs.store ?_ | refine G.retc ?_ | refine Gs.dr ?_ | refine G.qadd (by omega) ?_ | refine G.qsub (by omega) ?_ | refine G.qmul (by omega) ?_ | refine G.qneg (by omega) ?_ | refine G.qkp ?_ | refine Gs.qkb ?_ | refine G.withT ?_ | refine Gs.withb ?_ | refine G.ift ?_ | refine G.iff ?_ | refine G.gdtt ?_ | refine G.gdff ?_ | refine G.gdtf ?_ | refine G.gdft ?_ | (refine G.jk ?_; intro _)| refine G.gdbn (by first | (simp; done)) ?_ | refine G.gdby (by first | (simp; done)) ?_ | refine G.gdyf (by first | (simp; done) | omega) ?_ | refine G.gdy (by first | (simp; done) | omega) ?_ | refine G.gdn (by first | (simp; done) | omega) ?_ | refine G.gdnf (by first | (simp; done) | omega) ?_ | refine G.ify (by first | (simp; done) | omega) ?_ | refine G.ifn (by first | (simp; done) | omega) ?_))
    exact Gs.goS (hc (i + 1, h9) ⟨by dsimp only; omega, (hle7.trans hle8).trans hle9⟩ (by dsimp only; omega)) rfl
  · exact Gs.ret rfl
end Go.Proofs.YtlljhipmnkdpeaaGreatDoor
