/-
  Lemmas for the proof of the statement of this claim: a part of the road, no statement of its own. Conditions: those that each lemma names.
-/
import Derived.Test.YtcapijkioaocmaaDoorKd
set_option linter.unusedVariables false
set_option maxHeartbeats 4000000
namespace Go.Proofs.YtcapijkioaocmaaDoor
open Go Go.Sk Go.Dy Go.RowKit
theorem parses_ok (l : List UInt8) (a1 x1 b1 : Int) (h : Hp) (hE : Env h) (r1 : RawIn a1 x1 b1) : Ct Tryd.prog 9 [Str l, Raw a1 x1 b1] h (fun _ v => v = .bool true) := by
  refine ct9 ?_
  intro w0
  unfold s9
  (repeat (first | refine G.add (by omega) ?_ | refine G.sub (by omega) ?_ | refine G.mul (by omega) ?_ | refine G.neg (by omega) ?_ | refine G.quo (by omega) (by omega) ?_ | refine G.rem (by omega) ?_ | refine G.shr (by omega) ?_ | refine G.conv (by omega) ?_ | refine G.step ?_ | refine G.buildA (by rfl) ?_ | (refine Gs.box ?_; intro _) | (refine Gs.alloc ?_; intro _) | refine Gs.store ?_ | refine G.retc ?_ | refine Gs.dr ?_ | refine G.qadd (by omega) ?_ | refine G.qsub (by omega) ?_ | refine G.qmul (by omega) ?_ | refine G.qneg (by omega) ?_ | refine G.qkp ?_ | refine Gs.qkb ?_ | refine G.withT ?_ | refine Gs.withb ?_ | refine G.ift ?_ | refine G.iff ?_ | refine G.gdtt ?_ | refine G.gdff ?_ | refine G.gdtf ?_ | refine G.gdft ?_ | (refine G.jk ?_; intro _)| refine G.gdyf (by first | (simp; done) | omega) ?_ | refine G.gdy (by first | (simp; done) | omega) ?_ | refine G.gdn (by first | (simp; done) | omega) ?_ | refine G.gdnf (by first | (simp; done) | omega) ?_ | refine G.ify (by first | (simp; done) | omega) ?_ | refine G.ifn (by first | (simp; done) | omega) ?_| refine got_call ?_ | refine frac_call ?_ | refine sanity_call hE ?_))
  refine G.ifd ?_ ?_ <;> intro hl
  · exact Gs.ret rfl
  (repeat (first | refine G.add (by omega) ?_ | refine G.sub (by omega) ?_ | refine G.mul (by omega) ?_ | refine G.neg (by omega) ?_ | refine G.quo (by omega) (by omega) ?_ | refine G.rem (by omega) ?_ | refine G.shr (by omega) ?_ | refine G.conv (by omega) ?_ | refine G.step ?_ | refine G.buildA (by rfl) ?_ | (refine Gs.box ?_; intro _) | (refine Gs.alloc ?_; intro _) | refine Gs.store ?_ | refine G.retc ?_ | refine Gs.dr ?_ | refine G.qadd (by omega) ?_ | refine G.qsub (by omega) ?_ | refine G.qmul (by omega) ?_ | refine G.qneg (by omega) ?_ | refine G.qkp ?_ | refine Gs.qkb ?_ | refine G.withT ?_ | refine Gs.withb ?_ | refine G.ift ?_ | refine G.iff ?_ | refine G.gdtt ?_ | refine G.gdff ?_ | refine G.gdtf ?_ | refine G.gdft ?_ | (refine G.jk ?_; intro _)))
  refine Frac_call r1.a r1.x r1.b ?_
  rintro n e V1 -
  refine rprint_call V1 rfl ?_
  have ht := txt_len n e V1
  generalize txt n e = t at *
  refine G.sadd ⟨by omega, by omega⟩ ?_
  refine G.sadd ⟨by omega, by omega⟩ ?_
  refine G.sadd (a := [45]) ⟨by simp, by omega⟩ ?_
  refine G.sadd (a := [48]) ⟨by simp, by omega⟩ ?_
  refine G.sadd (b := [47, 49]) ⟨by omega, by simp⟩ ?_
  refine G.sadd (b := [47, 50]) ⟨by omega, by simp⟩ ?_
  refine Gs.buildSlice (by decide) ?_
  intro b
  refine Gs.freeze (v := .slice (some ⟨b, 0, none⟩) 7 7) ?_
  intro h' hle hr
  have hE' := hE.mono hle
  have hr := hr 7 rfl (by decide)
  have hall : ∀ k : Nat, k < 7 → ∃ s : List UInt8, chunk [Str l, Str (t ++ l), Str (l ++ t), Str ([45] ++ t), Str ([48] ++ t), Str (t ++ [47, 49]), Str (t ++ [47, 50])] 1 k = [Str s] ∧ s.length ≤ 200 := by
    intro k hk
    obtain rfl | rfl | rfl | rfl | rfl | rfl | rfl : k = 0 ∨ k = 1 ∨ k = 2 ∨ k = 3 ∨ k = 4 ∨ k = 5 ∨ k = 6 := by omega
    · exact ⟨_, rfl, by omega⟩
    · exact ⟨_, rfl, by rw [List.length_append]; omega⟩
    · exact ⟨_, rfl, by rw [List.length_append]; omega⟩
    · exact ⟨_, rfl, by simp; omega⟩
    · exact ⟨_, rfl, by simp; omega⟩
    · exact ⟨_, rfl, by simp; omega⟩
    · exact ⟨_, rfl, by simp; omega⟩
  refine Gs.lp (β := Nat) (fun i => I i) (fun _ => h') (fun _ => _) (fun i => i ≤ 7) (fun i => 7 - i) 0 rfl (by decide) (fun _ h => h) ?_
  rintro i hi cont hc
  refine G.jk ?_
  intro _
  refine Gs.len hr (by decide) ?_
  refine G.step ?_
  refine G.ifd ?_ ?_ <;> intro hlt
  · obtain ⟨s, hs, hsl⟩ := hall i (by omega)
    rw [← Int.toNat_natCast i] at hs
    refine Gs.dr ?_
    refine Gs.qindex hr ⟨by omega, by omega⟩ ?_
    intro b1 o1 hp1
    rw [hs] at hp1
    refine Gs.qloadP1 hp1 ?_
    refine Gs.qindex hr ⟨by omega, by omega⟩ ?_
    intro b2 o2 hp2
    rw [hs] at hp2
    refine Gs.qloadP1 hp2 ?_
    refine parse_call (by omega) hE' rfl ?_
    refine Gs.withf (Hle.refl _) ?_
    (repeat (first | refine G.add (by omega) ?_ | refine G.sub (by omega) ?_ | refine G.mul (by omega) ?_ | refine G.neg (by omega) ?_ | refine G.quo (by omega) (by omega) ?_ | refine G.rem (by omega) ?_ | refine G.shr (by omega) ?_ | refine G.conv (by omega) ?_ | refine G.step ?_ | refine G.buildA (by rfl) ?_ | (refine Gs.box ?_; intro _) | (refine Gs.alloc ?_; intro _) | refine Gs.store ?_ | refine G.retc ?_ | refine Gs.dr ?_ | refine G.qadd (by omega) ?_ | refine G.qsub (by omega) ?_ | refine G.qmul (by omega) ?_ | refine G.qneg (by omega) ?_ | refine G.qkp ?_ | refine Gs.qkb ?_ | refine G.withT ?_ | refine Gs.withb ?_ | refine G.ift ?_ | refine G.iff ?_ | refine G.gdtt ?_ | refine G.gdff ?_ | refine G.gdtf ?_ | refine G.gdft ?_ | (refine G.jk ?_; intro _)| refine G.gdyf (by first | (simp; done) | omega) ?_ | refine G.gdy (by first | (simp; done) | omega) ?_ | refine G.gdn (by first | (simp; done) | omega) ?_ | refine G.gdnf (by first | (simp; done) | omega) ?_ | refine G.ify (by first | (simp; done) | omega) ?_ | refine G.ifn (by first | (simp; done) | omega) ?_| refine got_call ?_ | refine frac_call ?_ | refine sanity_call hE ?_))
    refine Gs.withf (Hle.refl _) ?_
    (repeat (first | refine G.add (by omega) ?_ | refine G.sub (by omega) ?_ | refine G.mul (by omega) ?_ | refine G.neg (by omega) ?_ | refine G.quo (by omega) (by omega) ?_ | refine G.rem (by omega) ?_ | refine G.shr (by omega) ?_ | refine G.conv (by omega) ?_ | refine G.step ?_ | refine G.buildA (by rfl) ?_ | (refine Gs.box ?_; intro _) | (refine Gs.alloc ?_; intro _) | refine Gs.store ?_ | refine G.retc ?_ | refine Gs.dr ?_ | refine G.qadd (by omega) ?_ | refine G.qsub (by omega) ?_ | refine G.qmul (by omega) ?_ | refine G.qneg (by omega) ?_ | refine G.qkp ?_ | refine Gs.qkb ?_ | refine G.withT ?_ | refine Gs.withb ?_ | refine G.ift ?_ | refine G.iff ?_ | refine G.gdtt ?_ | refine G.gdff ?_ | refine G.gdtf ?_ | refine G.gdft ?_ | (refine G.jk ?_; intro _)| refine G.gdyf (by first | (simp; done) | omega) ?_ | refine G.gdy (by first | (simp; done) | omega) ?_ | refine G.gdn (by first | (simp; done) | omega) ?_ | refine G.gdnf (by first | (simp; done) | omega) ?_ | refine G.ify (by first | (simp; done) | omega) ?_ | refine G.ifn (by first | (simp; done) | omega) ?_| refine got_call ?_ | refine frac_call ?_ | refine sanity_call hE ?_))
    refine rparse_call (by omega) rfl ?_
    (repeat (first | refine G.add (by omega) ?_ | refine G.sub (by omega) ?_ | refine G.mul (by omega) ?_ | refine G.neg (by omega) ?_ | refine G.quo (by omega) (by omega) ?_ | refine G.rem (by omega) ?_ | refine G.shr (by omega) ?_ | refine G.conv (by omega) ?_ | refine G.step ?_ | refine G.buildA (by rfl) ?_ | (refine Gs.box ?_; intro _) | (refine Gs.alloc ?_; intro _) | refine Gs.store ?_ | refine G.retc ?_ | refine Gs.dr ?_ | refine G.qadd (by omega) ?_ | refine G.qsub (by omega) ?_ | refine G.qmul (by omega) ?_ | refine G.qneg (by omega) ?_ | refine G.qkp ?_ | refine Gs.qkb ?_ | refine G.withT ?_ | refine Gs.withb ?_ | refine G.ift ?_ | refine G.iff ?_ | refine G.gdtt ?_ | refine G.gdff ?_ | refine G.gdtf ?_ | refine G.gdft ?_ | (refine G.jk ?_; intro _)| refine G.gdyf (by first | (simp; done) | omega) ?_ | refine G.gdy (by first | (simp; done) | omega) ?_ | refine G.gdn (by first | (simp; done) | omega) ?_ | refine G.gdnf (by first | (simp; done) | omega) ?_ | refine G.ify (by first | (simp; done) | omega) ?_ | refine G.ifn (by first | (simp; done) | omega) ?_| refine got_call ?_ | refine frac_call ?_ | refine sanity_call hE ?_))
    exact Gs.go (hc (i + 1) (by omega) (by omega)) rfl
  · exact Gs.ret rfl
end Go.Proofs.YtcapijkioaocmaaDoor
