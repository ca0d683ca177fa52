/-
  Lemmas for the proof of the statement of this claim: a part of the road, no statement of its own. Conditions: those that each lemma names.
-/
import Derived.Test.YtlljhipmnkdpeaaGreatDoorKd
set_option linter.unusedVariables false
set_option maxHeartbeats 4000000
namespace Go.Proofs.YtlljhipmnkdpeaaGreatDoor
open Go Go.Sk Go.Pr Go.RowKit
def isPlain (s : Stp) : Bool := decide (s.1 ≠ 6 ∧ s.1 ≠ 7 ∧ s.1 ≠ 8)
def plainL : List Stp := stepsL.filter isPlain
theorem plain_len : plainL.length = 27 := by decide +kernel
theorem plain_mem {s : Stp} (h : s ∈ plainL) : stepB s 8 6 4 = true ∧ s.1 ≠ 6 ∧ s.1 ≠ 7 ∧ s.1 ≠ 8 := by
  obtain ⟨h1, h2⟩ := List.mem_filter.1 h
  exact ⟨(mem_steps s).1 h1, of_decide_eq_true h2⟩
theorem plain_take (l : List Stp) (i : Nat) (hi : i < l.length) : (l.take (i + 1)).filter isPlain = (l.take i).filter isPlain ++ if isPlain l[i] = true then [l[i]] else [] := by
  rw [List.take_succ_eq_append_getElem hi, List.filter_append]
  congr 1
  cases h : isPlain l[i] <;> simp [h]
theorem cnt_app (l m : List Stp) (op : Int) : cnt (l ++ m) op = cnt l op + cnt m op := by unfold cnt; rw [List.filter_append, List.length_append]
/-- What is known of a list of steps as it grows. -/
structure Grown (p : List Stp) (n t q b : Nat) : Prop where
  len : p.length = n + t + q + b
  all : allB p 8 6 4 = true
  t : cnt p 6 = t
  q : cnt p 7 = q
  b : cnt p 8 = b
theorem all_app {l m : List Stp} (h : allB l 8 6 4 = true) (h' : allB m 8 6 4 = true) : allB (l ++ m) 8 6 4 = true := by
  unfold allB at *
  rw [List.all_append, h, h']
  rfl
theorem all_one {s : Stp} (h : stepB s 8 6 4 = true) : allB [s] 8 6 4 = true := by
  unfold allB
  rw [List.all_cons, h]
  rfl
theorem cnt_one (s : Stp) (op : Int) : cnt [s] op = if s.1 = op then 1 else 0 := by
  have := cnt_snoc [] s op
  simpa [cnt_nil] using this
theorem Grown.plainM {p : List Stp} {n : Nat} (g : Grown p n 0 0 0) {s : Stp} (h : stepB s 8 6 4 = true ∧ s.1 ≠ 6 ∧ s.1 ≠ 7 ∧ s.1 ≠ 8) : Grown (p ++ [s]) (n + 1) 0 0 0 := by
  obtain ⟨h1, h6, h7, h8⟩ := h
  refine ⟨by have := g.len; simp; omega, all_app g.all (all_one h1), ?_, ?_, ?_⟩
  · rw [cnt_app, cnt_one, g.t, if_neg h6]
  · rw [cnt_app, cnt_one, g.q, if_neg h7]
  · rw [cnt_app, cnt_one, g.b, if_neg h8]
theorem Grown.take {p : List Stp} {n t : Nat} (g : Grown p n t 0 0) : Grown (p ++ [(6, 0)]) n (t + 1) 0 0 := by
  refine ⟨by have := g.len; simp; omega, all_app g.all (all_one rfl), ?_, ?_, ?_⟩
  · rw [cnt_app, cnt_one, g.t, if_pos rfl]
  · rw [cnt_app, cnt_one, g.q, if_neg (show ¬ (6 : Int) = 7 by decide)]
  · rw [cnt_app, cnt_one, g.b, if_neg (show ¬ (6 : Int) = 8 by decide)]
theorem Grown.push {p : List Stp} {n t q : Nat} (g : Grown p n t q 0) (hq : q < 8) : Grown ([(7, (q : Int))] ++ p) n t (q + 1) 0 := by
  refine ⟨by have := g.len; simp; omega, all_app (all_one (stepT (by decide) (by decide) (by omega) (by show (q : Int) < 8; omega))) g.all, ?_, ?_, ?_⟩
  · rw [cnt_app, cnt_one, g.t, if_neg (show ¬ (7 : Int) = 6 by decide)]; omega
  · rw [cnt_app, cnt_one, g.q, if_pos rfl]; omega
  · rw [cnt_app, cnt_one, g.b, if_neg (show ¬ (7 : Int) = 8 by decide)]
theorem Grown.become {p : List Stp} {n t q b : Nat} (g : Grown p n t q b) (hb : b < 6) : Grown (p ++ [(8, 5 - (b : Int))]) n t q (b + 1) := by
  refine ⟨by have := g.len; simp; omega, all_app g.all (all_one (stepT (by decide) (by decide) (by omega) (by show 5 - (b : Int) < 6; omega))), ?_, ?_, ?_⟩
  · rw [cnt_app, cnt_one, g.t, if_neg (show ¬ (8 : Int) = 6 by decide)]; omega
  · rw [cnt_app, cnt_one, g.q, if_neg (show ¬ (8 : Int) = 7 by decide)]; omega
  · rw [cnt_app, cnt_one, g.b, if_pos rfl]
theorem Grown.valid {p : List Stp} {n t q b : Nat} (g : Grown p n t q b) : validB p 8 6 4 = decide (1 ≤ p.length ∧ p.length ≤ 8 ∧ t ≤ 2 ∧ q ≤ 1 ∧ b ≤ 1) := by
  unfold validB
  rw [decide_eq_decide, g.all, g.t, g.q, g.b]
  exact ⟨fun ⟨h1, h2, _, h3, h4, h5⟩ => ⟨h1, h2, h3, h4, h5⟩, fun ⟨h1, h2, h3, h4, h5⟩ => ⟨h1, h2, rfl, h3, h4, h5⟩⟩
theorem limits_ok (n c0 c1 c2 u : Int) (h : Hp) (hE : Env h) (hn : 0 ≤ n ∧ n ≤ 255) (ha : 0 ≤ c0 ∧ c0 ≤ 255) (hb : 0 ≤ c1 ∧ c1 ≤ 255) (hc : 0 ≤ c2 ∧ c2 ≤ 255) (hu : 0 ≤ u ∧ u ≤ 255) :
    Ct Tryz.prog 8 [.int .u8 n, .agg #[.int .u8 c0, .int .u8 c1, .int .u8 c2], .int .u8 u] h (fun _ x => x = .bool true) := by
  refine ct8 ?_
  intro w0
  unfold s8
  (repeat (first | refine G.add (by omega) ?_ | refine G.sub (by omega) ?_ | refine G.mul (by omega) ?_ | refine G.neg (by omega) ?_ | refine G.quo (by omega) (by omega) ?_ | refine G.rem (by omega) ?_ | refine G.shr (by omega) ?_ | refine G.conv (by omega) ?_ | refine G.step ?_ | refine G.buildA (by rfl) ?_ | (refine Gs.box ?_; intro _) | (refine Gs.alloc ?_; intro _) | refine Gs.store ?_ | refine G.retc ?_ | refine Gs.dr ?_ | refine G.qadd (by omega) ?_ | refine G.qsub (by omega) ?_ | refine G.qmul (by omega) ?_ | refine G.qneg (by omega) ?_ | refine G.qkp ?_ | refine Gs.qkb ?_ | refine G.withT ?_ | refine Gs.withb ?_ | refine G.ift ?_ | refine G.iff ?_ | refine G.gdtt ?_ | refine G.gdff ?_ | refine G.gdtf ?_ | refine G.gdft ?_ | (refine G.jk ?_; intro _)))
  rename_i w1
  refine sanity_call hE ?_
  refine steps_call ?_
  intro h1 sv hle1 rs
  have hE := hE.mono hle1
  refine Gs.buildSlice (by decide) ?_
  intro b1
  refine Gs.buildSlice (by decide) ?_
  intro b2
  have hsl := steps_len
  refine Gs.lp (β := Nat × Value) (fun b => (b.2, I b.1)) (fun _ => h1) (fun b => [.sl b.2 41 2 (fl encP ((stepsL.take b.1).filter isPlain)), .sl (.slice (some ⟨b1, 0, none⟩) 0 0) 41 2 [], .blk w1 [.int .u8 c0, .int .u8 c1, .int .u8 c2] 54]) (fun b => b.1 ≤ stepsL.length) (fun b => stepsL.length - b.1) (0, .slice (some ⟨b2, 0, none⟩) 0 0) rfl (Nat.zero_le _) (fun _ h => h) ?_
  rintro ⟨i, pv⟩ hi cont hk
  dsimp only at *
  (repeat (first | refine G.add (by omega) ?_ | refine G.sub (by omega) ?_ | refine G.mul (by omega) ?_ | refine G.neg (by omega) ?_ | refine G.quo (by omega) (by omega) ?_ | refine G.rem (by omega) ?_ | refine G.shr (by omega) ?_ | refine G.conv (by omega) ?_ | refine G.step ?_ | refine G.buildA (by rfl) ?_ | (refine Gs.box ?_; intro _) | (refine Gs.alloc ?_; intro _) | refine Gs.store ?_ | refine G.retc ?_ | refine Gs.dr ?_ | refine G.qadd (by omega) ?_ | refine G.qsub (by omega) ?_ | refine G.qmul (by omega) ?_ | refine G.qneg (by omega) ?_ | refine G.qkp ?_ | refine Gs.qkb ?_ | refine G.withT ?_ | refine Gs.withb ?_ | refine G.ift ?_ | refine G.iff ?_ | refine G.gdtt ?_ | refine G.gdff ?_ | refine G.gdtf ?_ | refine G.gdft ?_ | (refine G.jk ?_; intro _)))
  refine Gs.lenE rs (by omega) ?_
  (repeat (first | refine G.add (by omega) ?_ | refine G.sub (by omega) ?_ | refine G.mul (by omega) ?_ | refine G.neg (by omega) ?_ | refine G.quo (by omega) (by omega) ?_ | refine G.rem (by omega) ?_ | refine G.shr (by omega) ?_ | refine G.conv (by omega) ?_ | refine G.step ?_ | refine G.buildA (by rfl) ?_ | (refine Gs.box ?_; intro _) | (refine Gs.alloc ?_; intro _) | refine Gs.store ?_ | refine G.retc ?_ | refine Gs.dr ?_ | refine G.qadd (by omega) ?_ | refine G.qsub (by omega) ?_ | refine G.qmul (by omega) ?_ | refine G.qneg (by omega) ?_ | refine G.qkp ?_ | refine Gs.qkb ?_ | refine G.withT ?_ | refine Gs.withb ?_ | refine G.ift ?_ | refine G.iff ?_ | refine G.gdtt ?_ | refine G.gdff ?_ | refine G.gdtf ?_ | refine G.gdft ?_ | (refine G.jk ?_; intro _)))
  refine G.ifd ?_ ?_ <;> intro hlt
  · have hil : i < stepsL.length := by omega
    have hpt := plain_take stepsL i hil
    have hfl : ((stepsL.take i).filter isPlain).length ≤ 42 := Nat.le_trans (List.length_filter_le _ _) (by rw [List.length_take]; omega)
    have hk0 := fun v' => hk (i + 1, v') (by dsimp only; omega) (by dsimp only; omega)
    dsimp only at hk0
    have hskip : isPlain stepsL[i] = false → Gs w0 h h1 [.sl pv 41 2 (fl encP ((stepsL.take i).filter isPlain)), .sl (.slice (some ⟨b1, 0, none⟩) 0 0) 41 2 [], .blk w1 [.int .u8 c0, .int .u8 c1, .int .u8 c2] 54] (cont (pv, I ((i : Int) + 1))) := by
      intro hp
      have := hk0 pv
      rw [hpt, hp, if_neg (by decide), List.append_nil] at this
      exact this
    refine G.jn ?_
    refine G.jn ?_
    refine Gs.indexE rs hil ?_
    intro b3 o3 p3
    (repeat (first | refine G.add (by omega) ?_ | refine G.sub (by omega) ?_ | refine G.mul (by omega) ?_ | refine G.neg (by omega) ?_ | refine G.quo (by omega) (by omega) ?_ | refine G.rem (by omega) ?_ | refine G.shr (by omega) ?_ | refine G.conv (by omega) ?_ | refine G.step ?_ | refine G.buildA (by rfl) ?_ | (refine Gs.box ?_; intro _) | (refine Gs.alloc ?_; intro _) | refine Gs.store ?_ | refine G.retc ?_ | refine Gs.dr ?_ | refine G.qadd (by omega) ?_ | refine G.qsub (by omega) ?_ | refine G.qmul (by omega) ?_ | refine G.qneg (by omega) ?_ | refine G.qkp ?_ | refine Gs.qkb ?_ | refine G.withT ?_ | refine Gs.withb ?_ | refine G.ift ?_ | refine G.iff ?_ | refine G.gdtt ?_ | refine G.gdff ?_ | refine G.gdtf ?_ | refine G.gdft ?_ | (refine G.jk ?_; intro _)))
    refine Gs.loadP1 p3 ?_
    (repeat (first | refine G.add (by omega) ?_ | refine G.sub (by omega) ?_ | refine G.mul (by omega) ?_ | refine G.neg (by omega) ?_ | refine G.quo (by omega) (by omega) ?_ | refine G.rem (by omega) ?_ | refine G.shr (by omega) ?_ | refine G.conv (by omega) ?_ | refine G.step ?_ | refine G.buildA (by rfl) ?_ | (refine Gs.box ?_; intro _) | (refine Gs.alloc ?_; intro _) | refine Gs.store ?_ | refine G.retc ?_ | refine Gs.dr ?_ | refine G.qadd (by omega) ?_ | refine G.qsub (by omega) ?_ | refine G.qmul (by omega) ?_ | refine G.qneg (by omega) ?_ | refine G.qkp ?_ | refine Gs.qkb ?_ | refine G.withT ?_ | refine Gs.withb ?_ | refine G.ift ?_ | refine G.iff ?_ | refine G.gdtt ?_ | refine G.gdff ?_ | refine G.gdtf ?_ | refine G.gdft ?_ | (refine G.jk ?_; intro _)))
    refine G.gddt ?_ ?_ <;> intro e6
    · refine Gs.indexE rs hil ?_
      intro b4 o4 p4
      (repeat (first | refine G.add (by omega) ?_ | refine G.sub (by omega) ?_ | refine G.mul (by omega) ?_ | refine G.neg (by omega) ?_ | refine G.quo (by omega) (by omega) ?_ | refine G.rem (by omega) ?_ | refine G.shr (by omega) ?_ | refine G.conv (by omega) ?_ | refine G.step ?_ | refine G.buildA (by rfl) ?_ | (refine Gs.box ?_; intro _) | (refine Gs.alloc ?_; intro _) | refine Gs.store ?_ | refine G.retc ?_ | refine Gs.dr ?_ | refine G.qadd (by omega) ?_ | refine G.qsub (by omega) ?_ | refine G.qmul (by omega) ?_ | refine G.qneg (by omega) ?_ | refine G.qkp ?_ | refine Gs.qkb ?_ | refine G.withT ?_ | refine Gs.withb ?_ | refine G.ift ?_ | refine G.iff ?_ | refine G.gdtt ?_ | refine G.gdff ?_ | refine G.gdtf ?_ | refine G.gdft ?_ | (refine G.jk ?_; intro _)))
      refine Gs.loadP1 p4 ?_
      (repeat (first | refine G.add (by omega) ?_ | refine G.sub (by omega) ?_ | refine G.mul (by omega) ?_ | refine G.neg (by omega) ?_ | refine G.quo (by omega) (by omega) ?_ | refine G.rem (by omega) ?_ | refine G.shr (by omega) ?_ | refine G.conv (by omega) ?_ | refine G.step ?_ | refine G.buildA (by rfl) ?_ | (refine Gs.box ?_; intro _) | (refine Gs.alloc ?_; intro _) | refine Gs.store ?_ | refine G.retc ?_ | refine Gs.dr ?_ | refine G.qadd (by omega) ?_ | refine G.qsub (by omega) ?_ | refine G.qmul (by omega) ?_ | refine G.qneg (by omega) ?_ | refine G.qkp ?_ | refine Gs.qkb ?_ | refine G.withT ?_ | refine Gs.withb ?_ | refine G.ift ?_ | refine G.iff ?_ | refine G.gdtt ?_ | refine G.gdff ?_ | refine G.gdtf ?_ | refine G.gdft ?_ | (refine G.jk ?_; intro _)))
      refine G.gddt ?_ ?_ <;> intro e7
      · refine Gs.indexE rs hil ?_
        intro b5 o5 p5
        (repeat (first | refine G.add (by omega) ?_ | refine G.sub (by omega) ?_ | refine G.mul (by omega) ?_ | refine G.neg (by omega) ?_ | refine G.quo (by omega) (by omega) ?_ | refine G.rem (by omega) ?_ | refine G.shr (by omega) ?_ | refine G.conv (by omega) ?_ | refine G.step ?_ | refine G.buildA (by rfl) ?_ | (refine Gs.box ?_; intro _) | (refine Gs.alloc ?_; intro _) | refine Gs.store ?_ | refine G.retc ?_ | refine Gs.dr ?_ | refine G.qadd (by omega) ?_ | refine G.qsub (by omega) ?_ | refine G.qmul (by omega) ?_ | refine G.qneg (by omega) ?_ | refine G.qkp ?_ | refine Gs.qkb ?_ | refine G.withT ?_ | refine Gs.withb ?_ | refine G.ift ?_ | refine G.iff ?_ | refine G.gdtt ?_ | refine G.gdff ?_ | refine G.gdtf ?_ | refine G.gdft ?_ | (refine G.jk ?_; intro _)))
        refine Gs.loadP1 p5 ?_
        (repeat (first | refine G.add (by omega) ?_ | refine G.sub (by omega) ?_ | refine G.mul (by omega) ?_ | refine G.neg (by omega) ?_ | refine G.quo (by omega) (by omega) ?_ | refine G.rem (by omega) ?_ | refine G.shr (by omega) ?_ | refine G.conv (by omega) ?_ | refine G.step ?_ | refine G.buildA (by rfl) ?_ | (refine Gs.box ?_; intro _) | (refine Gs.alloc ?_; intro _) | refine Gs.store ?_ | refine G.retc ?_ | refine Gs.dr ?_ | refine G.qadd (by omega) ?_ | refine G.qsub (by omega) ?_ | refine G.qmul (by omega) ?_ | refine G.qneg (by omega) ?_ | refine G.qkp ?_ | refine Gs.qkb ?_ | refine G.withT ?_ | refine Gs.withb ?_ | refine G.ift ?_ | refine G.iff ?_ | refine G.gdtt ?_ | refine G.gdff ?_ | refine G.gdtf ?_ | refine G.gdft ?_ | (refine G.jk ?_; intro _)))
        refine G.ifd ?_ ?_ <;> intro e8
        · have hp : isPlain stepsL[i] = true := decide_eq_true ⟨e6, e7, e8⟩
          rw [hp, if_pos rfl] at hpt
          refine Gs.indexE rs hil ?_
          intro b6 o6 p6
          refine Gs.loadPN p6 rfl ?_
          refine Gs.buildSlice (by decide) ?_
          intro b7
          refine Gs.appendO (enc := encP) (l := (stepsL.take i).filter isPlain) (m := [stepsL[i]]) (x := .slice (some ⟨b7, 0, none⟩) 1 1) (e2 := 41) (by simp [fl]) (by simp only [List.length_singleton]; omega) (by simp only [List.length_singleton]; omega) ?_
          intro v'
          (repeat (first | refine G.add (by omega) ?_ | refine G.sub (by omega) ?_ | refine G.mul (by omega) ?_ | refine G.neg (by omega) ?_ | refine G.quo (by omega) (by omega) ?_ | refine G.rem (by omega) ?_ | refine G.shr (by omega) ?_ | refine G.conv (by omega) ?_ | refine G.step ?_ | refine G.buildA (by rfl) ?_ | (refine Gs.box ?_; intro _) | (refine Gs.alloc ?_; intro _) | refine Gs.store ?_ | refine G.retc ?_ | refine Gs.dr ?_ | refine G.qadd (by omega) ?_ | refine G.qsub (by omega) ?_ | refine G.qmul (by omega) ?_ | refine G.qneg (by omega) ?_ | refine G.qkp ?_ | refine Gs.qkb ?_ | refine G.withT ?_ | refine Gs.withb ?_ | refine G.ift ?_ | refine G.iff ?_ | refine G.gdtt ?_ | refine G.gdff ?_ | refine G.gdtf ?_ | refine G.gdft ?_ | (refine G.jk ?_; intro _)))
          refine Gs.goS ?_ rfl (L' := [.sl v' 41 2 (fl encP ((stepsL.take i).filter isPlain ++ [stepsL[i]])), .sl (.slice (some ⟨b1, 0, none⟩) 0 0) 41 2 [], .blk w1 [.int .u8 c0, .int .u8 c1, .int .u8 c2] 54])
          rw [← hpt]
          exact hk0 v'
        · (repeat (first | refine G.add (by omega) ?_ | refine G.sub (by omega) ?_ | refine G.mul (by omega) ?_ | refine G.neg (by omega) ?_ | refine G.quo (by omega) (by omega) ?_ | refine G.rem (by omega) ?_ | refine G.shr (by omega) ?_ | refine G.conv (by omega) ?_ | refine G.step ?_ | refine G.buildA (by rfl) ?_ | (refine Gs.box ?_; intro _) | (refine Gs.alloc ?_; intro _) | refine Gs.store ?_ | refine G.retc ?_ | refine Gs.dr ?_ | refine G.qadd (by omega) ?_ | refine G.qsub (by omega) ?_ | refine G.qmul (by omega) ?_ | refine G.qneg (by omega) ?_ | refine G.qkp ?_ | refine Gs.qkb ?_ | refine G.withT ?_ | refine Gs.withb ?_ | refine G.ift ?_ | refine G.iff ?_ | refine G.gdtt ?_ | refine G.gdff ?_ | refine G.gdtf ?_ | refine G.gdft ?_ | (refine G.jk ?_; intro _)))
          exact Gs.goS (hskip (decide_eq_false fun h => e8 h.2.2)) rfl
      · (repeat (first | refine G.add (by omega) ?_ | refine G.sub (by omega) ?_ | refine G.mul (by omega) ?_ | refine G.neg (by omega) ?_ | refine G.quo (by omega) (by omega) ?_ | refine G.rem (by omega) ?_ | refine G.shr (by omega) ?_ | refine G.conv (by omega) ?_ | refine G.step ?_ | refine G.buildA (by rfl) ?_ | (refine Gs.box ?_; intro _) | (refine Gs.alloc ?_; intro _) | refine Gs.store ?_ | refine G.retc ?_ | refine Gs.dr ?_ | refine G.qadd (by omega) ?_ | refine G.qsub (by omega) ?_ | refine G.qmul (by omega) ?_ | refine G.qneg (by omega) ?_ | refine G.qkp ?_ | refine Gs.qkb ?_ | refine G.withT ?_ | refine Gs.withb ?_ | refine G.ift ?_ | refine G.iff ?_ | refine G.gdtt ?_ | refine G.gdff ?_ | refine G.gdtf ?_ | refine G.gdft ?_ | (refine G.jk ?_; intro _)))
        exact Gs.goS (hskip (decide_eq_false fun h => e7 h.2.1)) rfl
    · (repeat (first | refine G.add (by omega) ?_ | refine G.sub (by omega) ?_ | refine G.mul (by omega) ?_ | refine G.neg (by omega) ?_ | refine G.quo (by omega) (by omega) ?_ | refine G.rem (by omega) ?_ | refine G.shr (by omega) ?_ | refine G.conv (by omega) ?_ | refine G.step ?_ | refine G.buildA (by rfl) ?_ | (refine Gs.box ?_; intro _) | (refine Gs.alloc ?_; intro _) | refine Gs.store ?_ | refine G.retc ?_ | refine Gs.dr ?_ | refine G.qadd (by omega) ?_ | refine G.qsub (by omega) ?_ | refine G.qmul (by omega) ?_ | refine G.qneg (by omega) ?_ | refine G.qkp ?_ | refine Gs.qkb ?_ | refine G.withT ?_ | refine Gs.withb ?_ | refine G.ift ?_ | refine G.iff ?_ | refine G.gdtt ?_ | refine G.gdff ?_ | refine G.gdtf ?_ | refine G.gdft ?_ | (refine G.jk ?_; intro _)))
      exact Gs.goS (hskip (decide_eq_false fun h => e6 h.1)) rfl
  · rw [List.take_of_length_le (by omega)]
    clear hk
    refine Gs.freezeE (v := pv) (enc := encP) (l := plainL) (by decide) ?_
    intro h2 hle2 rP
    have hE := hE.mono hle2
    have hpl := plain_len
    have hpm := @plain_mem
    generalize plainL = PL at *
    refine Gs.lp (β := Nat × List Stp × Value) (fun b => (b.2.2, I b.1)) (fun _ => h2) (fun b => [.sl b.2.2 41 2 (fl encP b.2.1), .blk w1 [.int .u8 c0, .int .u8 c1, .int .u8 c2] 54]) (fun b => (b.1 : Int) ≤ n % 10 ∧ Grown b.2.1 b.1 0 0 0) (fun b => (n % 10).toNat - b.1) (0, [], .slice (some ⟨b1, 0, none⟩) 0 0) rfl ⟨by dsimp only; omega, rfl, rfl, rfl, rfl, rfl⟩ (fun _ h => h) ?_
    rintro ⟨i, p, ov⟩ ⟨hi, g⟩ cont hk
    dsimp only at *
    have hlen := g.len
    refine G.jk ?_
    intro _
    refine G.rem8 hn.1 (by decide) ?_
    (repeat (first | refine G.add (by omega) ?_ | refine G.sub (by omega) ?_ | refine G.mul (by omega) ?_ | refine G.neg (by omega) ?_ | refine G.quo (by omega) (by omega) ?_ | refine G.rem (by omega) ?_ | refine G.shr (by omega) ?_ | refine G.conv (by omega) ?_ | refine G.step ?_ | refine G.buildA (by rfl) ?_ | (refine Gs.box ?_; intro _) | (refine Gs.alloc ?_; intro _) | refine Gs.store ?_ | refine G.retc ?_ | refine Gs.dr ?_ | refine G.qadd (by omega) ?_ | refine G.qsub (by omega) ?_ | refine G.qmul (by omega) ?_ | refine G.qneg (by omega) ?_ | refine G.qkp ?_ | refine Gs.qkb ?_ | refine G.withT ?_ | refine Gs.withb ?_ | refine G.ift ?_ | refine G.iff ?_ | refine G.gdtt ?_ | refine G.gdff ?_ | refine G.gdtf ?_ | refine G.gdft ?_ | (refine G.jk ?_; intro _)))
    refine G.ifd ?_ ?_ <;> intro hlt
    · (repeat (first | refine G.add (by omega) ?_ | refine G.sub (by omega) ?_ | refine G.mul (by omega) ?_ | refine G.neg (by omega) ?_ | refine G.quo (by omega) (by omega) ?_ | refine G.rem (by omega) ?_ | refine G.shr (by omega) ?_ | refine G.conv (by omega) ?_ | refine G.step ?_ | refine G.buildA (by rfl) ?_ | (refine Gs.box ?_; intro _) | (refine Gs.alloc ?_; intro _) | refine Gs.store ?_ | refine G.retc ?_ | refine Gs.dr ?_ | refine G.qadd (by omega) ?_ | refine G.qsub (by omega) ?_ | refine G.qmul (by omega) ?_ | refine G.qneg (by omega) ?_ | refine G.qkp ?_ | refine Gs.qkb ?_ | refine G.withT ?_ | refine Gs.withb ?_ | refine G.ift ?_ | refine G.iff ?_ | refine G.gdtt ?_ | refine G.gdff ?_ | refine G.gdtf ?_ | refine G.gdft ?_ | (refine G.jk ?_; intro _)))
      refine Gs.lenE rP (by omega) ?_
      rw [hpl]
      (repeat (first | refine G.add (by omega) ?_ | refine G.sub (by omega) ?_ | refine G.mul (by omega) ?_ | refine G.neg (by omega) ?_ | refine G.quo (by omega) (by omega) ?_ | refine G.rem (by omega) ?_ | refine G.shr (by omega) ?_ | refine G.conv (by omega) ?_ | refine G.step ?_ | refine G.buildA (by rfl) ?_ | (refine Gs.box ?_; intro _) | (refine Gs.alloc ?_; intro _) | refine Gs.store ?_ | refine G.retc ?_ | refine Gs.dr ?_ | refine G.qadd (by omega) ?_ | refine G.qsub (by omega) ?_ | refine G.qmul (by omega) ?_ | refine G.qneg (by omega) ?_ | refine G.qkp ?_ | refine Gs.qkb ?_ | refine G.withT ?_ | refine Gs.withb ?_ | refine G.ift ?_ | refine G.iff ?_ | refine G.gdtt ?_ | refine G.gdff ?_ | refine G.gdtf ?_ | refine G.gdft ?_ | (refine G.jk ?_; intro _)))
      rw [Int.tmod_eq_emod_of_nonneg (show 0 ≤ u + (i : Int) by omega)]
      obtain ⟨k, hk27⟩ := Int.eq_ofNat_of_zero_le (show 0 ≤ (u + (i : Int)) % ((27 : Nat) : Int) by omega)
      rw [hk27]
      have hkl : k < PL.length := by omega
      refine Gs.indexE rP hkl ?_
      intro b6 o6 p6
      refine Gs.loadPN p6 rfl ?_
      refine Gs.buildSlice (by decide) ?_
      intro b7
      refine Gs.appendO (enc := encP) (l := p) (m := [PL[k]]) (x := .slice (some ⟨b7, 0, none⟩) 1 1) (e2 := 41) (by simp [fl]) (by simp only [List.length_singleton]; omega) (by simp only [List.length_singleton]; omega) ?_
      intro v'
      have hg := Grown.plainM g (hpm (List.getElem_mem hkl))
      (repeat (first | refine G.add (by omega) ?_ | refine G.sub (by omega) ?_ | refine G.mul (by omega) ?_ | refine G.neg (by omega) ?_ | refine G.quo (by omega) (by omega) ?_ | refine G.rem (by omega) ?_ | refine G.shr (by omega) ?_ | refine G.conv (by omega) ?_ | refine G.step ?_ | refine G.buildA (by rfl) ?_ | (refine Gs.box ?_; intro _) | (refine Gs.alloc ?_; intro _) | refine Gs.store ?_ | refine G.retc ?_ | refine Gs.dr ?_ | refine G.qadd (by omega) ?_ | refine G.qsub (by omega) ?_ | refine G.qmul (by omega) ?_ | refine G.qneg (by omega) ?_ | refine G.qkp ?_ | refine Gs.qkb ?_ | refine G.withT ?_ | refine Gs.withb ?_ | refine G.ift ?_ | refine G.iff ?_ | refine G.gdtt ?_ | refine G.gdff ?_ | refine G.gdtf ?_ | refine G.gdft ?_ | (refine G.jk ?_; intro _)))
      exact Gs.goS (hk (i + 1, p ++ [PL[k]], v') ⟨by dsimp only; omega, hg⟩ (by dsimp only; omega)) rfl
    · clear hk
      (repeat (first | refine G.add (by omega) ?_ | refine G.sub (by omega) ?_ | refine G.mul (by omega) ?_ | refine G.neg (by omega) ?_ | refine G.quo (by omega) (by omega) ?_ | refine G.rem (by omega) ?_ | refine G.shr (by omega) ?_ | refine G.conv (by omega) ?_ | refine G.step ?_ | refine G.buildA (by rfl) ?_ | (refine Gs.box ?_; intro _) | (refine Gs.alloc ?_; intro _) | refine Gs.store ?_ | refine G.retc ?_ | refine Gs.dr ?_ | refine G.qadd (by omega) ?_ | refine G.qsub (by omega) ?_ | refine G.qmul (by omega) ?_ | refine G.qneg (by omega) ?_ | refine G.qconv (by omega) ?_ | refine G.qbuildA (by rfl) ?_ | refine G.qkp ?_ | refine Gs.qkb ?_ | refine G.withT ?_ | refine Gs.withb ?_ | refine G.ift ?_ | refine G.iff ?_ | refine G.gdtt ?_ | refine G.gdff ?_ | refine G.gdtf ?_ | refine G.gdft ?_ | (refine G.jk ?_; intro _)| refine G.gdbn (by first | (simp; done) | omega) ?_ | refine G.gdby (by first | (simp; done) | omega) ?_ | refine G.gdyf (by first | (simp; done) | omega) ?_ | refine G.gdy (by first | (simp; done) | omega) ?_ | refine G.gdn (by first | (simp; done) | omega) ?_ | refine G.gdnf (by first | (simp; done) | omega) ?_ | refine G.ify (by first | (simp; done) | omega) ?_ | refine G.ifn (by first | (simp; done) | omega) ?_))
      refine G.qrem8 ha.1 (by decide) ?_
      (repeat (first | refine G.add (by omega) ?_ | refine G.sub (by omega) ?_ | refine G.mul (by omega) ?_ | refine G.neg (by omega) ?_ | refine G.quo (by omega) (by omega) ?_ | refine G.rem (by omega) ?_ | refine G.shr (by omega) ?_ | refine G.conv (by omega) ?_ | refine G.step ?_ | refine G.buildA (by rfl) ?_ | (refine Gs.box ?_; intro _) | (refine Gs.alloc ?_; intro _) | refine Gs.store ?_ | refine G.retc ?_ | refine Gs.dr ?_ | refine G.qadd (by omega) ?_ | refine G.qsub (by omega) ?_ | refine G.qmul (by omega) ?_ | refine G.qneg (by omega) ?_ | refine G.qconv (by omega) ?_ | refine G.qbuildA (by rfl) ?_ | refine G.qkp ?_ | refine Gs.qkb ?_ | refine G.withT ?_ | refine Gs.withb ?_ | refine G.ift ?_ | refine G.iff ?_ | refine G.gdtt ?_ | refine G.gdff ?_ | refine G.gdtf ?_ | refine G.gdft ?_ | (refine G.jk ?_; intro _)| refine G.gdbn (by first | (simp; done) | omega) ?_ | refine G.gdby (by first | (simp; done) | omega) ?_ | refine G.gdyf (by first | (simp; done) | omega) ?_ | refine G.gdy (by first | (simp; done) | omega) ?_ | refine G.gdn (by first | (simp; done) | omega) ?_ | refine G.gdnf (by first | (simp; done) | omega) ?_ | refine G.ify (by first | (simp; done) | omega) ?_ | refine G.ifn (by first | (simp; done) | omega) ?_))
      refine G.qrem8 hb.1 (by decide) ?_
      (repeat (first | refine G.add (by omega) ?_ | refine G.sub (by omega) ?_ | refine G.mul (by omega) ?_ | refine G.neg (by omega) ?_ | refine G.quo (by omega) (by omega) ?_ | refine G.rem (by omega) ?_ | refine G.shr (by omega) ?_ | refine G.conv (by omega) ?_ | refine G.step ?_ | refine G.buildA (by rfl) ?_ | (refine Gs.box ?_; intro _) | (refine Gs.alloc ?_; intro _) | refine Gs.store ?_ | refine G.retc ?_ | refine Gs.dr ?_ | refine G.qadd (by omega) ?_ | refine G.qsub (by omega) ?_ | refine G.qmul (by omega) ?_ | refine G.qneg (by omega) ?_ | refine G.qconv (by omega) ?_ | refine G.qbuildA (by rfl) ?_ | refine G.qkp ?_ | refine Gs.qkb ?_ | refine G.withT ?_ | refine Gs.withb ?_ | refine G.ift ?_ | refine G.iff ?_ | refine G.gdtt ?_ | refine G.gdff ?_ | refine G.gdtf ?_ | refine G.gdft ?_ | (refine G.jk ?_; intro _)| refine G.gdbn (by first | (simp; done) | omega) ?_ | refine G.gdby (by first | (simp; done) | omega) ?_ | refine G.gdyf (by first | (simp; done) | omega) ?_ | refine G.gdy (by first | (simp; done) | omega) ?_ | refine G.gdn (by first | (simp; done) | omega) ?_ | refine G.gdnf (by first | (simp; done) | omega) ?_ | refine G.ify (by first | (simp; done) | omega) ?_ | refine G.ifn (by first | (simp; done) | omega) ?_))
      refine G.qrem8 hc.1 (by decide) ?_
      (repeat (first | refine G.add (by omega) ?_ | refine G.sub (by omega) ?_ | refine G.mul (by omega) ?_ | refine G.neg (by omega) ?_ | refine G.quo (by omega) (by omega) ?_ | refine G.rem (by omega) ?_ | refine G.shr (by omega) ?_ | refine G.conv (by omega) ?_ | refine G.step ?_ | refine G.buildA (by rfl) ?_ | (refine Gs.box ?_; intro _) | (refine Gs.alloc ?_; intro _) | refine Gs.store ?_ | refine G.retc ?_ | refine Gs.dr ?_ | refine G.qadd (by omega) ?_ | refine G.qsub (by omega) ?_ | refine G.qmul (by omega) ?_ | refine G.qneg (by omega) ?_ | refine G.qconv (by omega) ?_ | refine G.qbuildA (by rfl) ?_ | refine G.qkp ?_ | refine Gs.qkb ?_ | refine G.withT ?_ | refine Gs.withb ?_ | refine G.ift ?_ | refine G.iff ?_ | refine G.gdtt ?_ | refine G.gdff ?_ | refine G.gdtf ?_ | refine G.gdft ?_ | (refine G.jk ?_; intro _)| refine G.gdbn (by first | (simp; done) | omega) ?_ | refine G.gdby (by first | (simp; done) | omega) ?_ | refine G.gdyf (by first | (simp; done) | omega) ?_ | refine G.gdy (by first | (simp; done) | omega) ?_ | refine G.gdn (by first | (simp; done) | omega) ?_ | refine G.gdnf (by first | (simp; done) | omega) ?_ | refine G.ify (by first | (simp; done) | omega) ?_ | refine G.ifn (by first | (simp; done) | omega) ?_))
      have hin : i ≤ 9 := by omega
      clear hlt hi
      obtain ⟨T, hT⟩ := Int.eq_ofNat_of_zero_le (show 0 ≤ c0 % 4 by omega)
      obtain ⟨Q, hQ⟩ := Int.eq_ofNat_of_zero_le (show 0 ≤ c1 % 3 by omega)
      obtain ⟨B, hB⟩ := Int.eq_ofNat_of_zero_le (show 0 ≤ c2 % 3 by omega)
      rw [hT, hQ, hB]
      have hT4 : T < 4 := by omega
      have hQ3 : Q < 3 := by omega
      have hB3 : B < 3 := by omega
      refine Gs.lp (β := Nat × List Stp × Value) (fun b => (b.2.2, I b.1)) (fun _ => h2) (fun b => [.sl b.2.2 41 2 (fl encP b.2.1), .blk w1 [.int .u8 c0, .int .u8 c1, .int .u8 c2] 54]) (fun b => b.1 ≤ T ∧ Grown b.2.1 i b.1 0 0) (fun b => T - b.1) (0, p, ov) rfl ⟨Nat.zero_le _, g⟩ (fun _ h => h) ?_
      clear g hlen
      rintro ⟨k, p, ov⟩ ⟨hi, g⟩ cont hk
      dsimp only at *
      have hlen := g.len
      (repeat (first | refine G.add (by omega) ?_ | refine G.sub (by omega) ?_ | refine G.mul (by omega) ?_ | refine G.neg (by omega) ?_ | refine G.quo (by omega) (by omega) ?_ | refine G.rem (by omega) ?_ | refine G.shr (by omega) ?_ | refine G.conv (by omega) ?_ | refine G.step ?_ | refine G.buildA (by rfl) ?_ | (refine Gs.box ?_; intro _) | (refine Gs.alloc ?_; intro _) | refine Gs.store ?_ | refine G.retc ?_ | refine Gs.dr ?_ | refine G.qadd (by omega) ?_ | refine G.qsub (by omega) ?_ | refine G.qmul (by omega) ?_ | refine G.qneg (by omega) ?_ | refine G.qkp ?_ | refine Gs.qkb ?_ | refine G.withT ?_ | refine Gs.withb ?_ | refine G.ift ?_ | refine G.iff ?_ | refine G.gdtt ?_ | refine G.gdff ?_ | refine G.gdtf ?_ | refine G.gdft ?_ | (refine G.jk ?_; intro _)))
      refine G.ifd ?_ ?_ <;> intro hlt
      · (repeat (first | refine G.add (by omega) ?_ | refine G.sub (by omega) ?_ | refine G.mul (by omega) ?_ | refine G.neg (by omega) ?_ | refine G.quo (by omega) (by omega) ?_ | refine G.rem (by omega) ?_ | refine G.shr (by omega) ?_ | refine G.conv (by omega) ?_ | refine G.step ?_ | refine G.buildA (by rfl) ?_ | (refine Gs.box ?_; intro _) | (refine Gs.alloc ?_; intro _) | refine Gs.store ?_ | refine G.retc ?_ | refine Gs.dr ?_ | refine G.qadd (by omega) ?_ | refine G.qsub (by omega) ?_ | refine G.qmul (by omega) ?_ | refine G.qneg (by omega) ?_ | refine G.qkp ?_ | refine Gs.qkb ?_ | refine G.withT ?_ | refine Gs.withb ?_ | refine G.ift ?_ | refine G.iff ?_ | refine G.gdtt ?_ | refine G.gdff ?_ | refine G.gdtf ?_ | refine G.gdft ?_ | (refine G.jk ?_; intro _)))
        refine Gs.buildSlice (by decide) ?_
        intro b7
        refine Gs.appendO (enc := encP) (l := p) (m := [(6, 0)]) (x := .slice (some ⟨b7, 0, none⟩) 1 1) (e2 := 41) (by simp [fl]) (by simp only [List.length_singleton]; omega) (by simp only [List.length_singleton]; omega) ?_
        intro v'
        (repeat (first | refine G.add (by omega) ?_ | refine G.sub (by omega) ?_ | refine G.mul (by omega) ?_ | refine G.neg (by omega) ?_ | refine G.quo (by omega) (by omega) ?_ | refine G.rem (by omega) ?_ | refine G.shr (by omega) ?_ | refine G.conv (by omega) ?_ | refine G.step ?_ | refine G.buildA (by rfl) ?_ | (refine Gs.box ?_; intro _) | (refine Gs.alloc ?_; intro _) | refine Gs.store ?_ | refine G.retc ?_ | refine Gs.dr ?_ | refine G.qadd (by omega) ?_ | refine G.qsub (by omega) ?_ | refine G.qmul (by omega) ?_ | refine G.qneg (by omega) ?_ | refine G.qkp ?_ | refine Gs.qkb ?_ | refine G.withT ?_ | refine Gs.withb ?_ | refine G.ift ?_ | refine G.iff ?_ | refine G.gdtt ?_ | refine G.gdff ?_ | refine G.gdtf ?_ | refine G.gdft ?_ | (refine G.jk ?_; intro _)))
        exact Gs.goS (hk (k + 1, p ++ [(6, 0)], v') ⟨by dsimp only; omega, g.take⟩ (by dsimp only; omega)) rfl
      · have : k = T := by omega
        subst this
        clear hk
        refine Gs.lp (β := Nat × List Stp × Value) (fun b => (b.2.2, I b.1)) (fun _ => h2) (fun b => [.sl b.2.2 41 2 (fl encP b.2.1), .blk w1 [.int .u8 c0, .int .u8 c1, .int .u8 c2] 54]) (fun b => b.1 ≤ Q ∧ Grown b.2.1 i k b.1 0) (fun b => Q - b.1) (0, p, ov) rfl ⟨Nat.zero_le _, g⟩ (fun _ h => h) ?_
        clear g hlen hlt hi
        rintro ⟨m, p, ov⟩ ⟨hi, g⟩ cont hk
        dsimp only at *
        have hlen := g.len
        (repeat (first | refine G.add (by omega) ?_ | refine G.sub (by omega) ?_ | refine G.mul (by omega) ?_ | refine G.neg (by omega) ?_ | refine G.quo (by omega) (by omega) ?_ | refine G.rem (by omega) ?_ | refine G.shr (by omega) ?_ | refine G.conv (by omega) ?_ | refine G.step ?_ | refine G.buildA (by rfl) ?_ | (refine Gs.box ?_; intro _) | (refine Gs.alloc ?_; intro _) | refine Gs.store ?_ | refine G.retc ?_ | refine Gs.dr ?_ | refine G.qadd (by omega) ?_ | refine G.qsub (by omega) ?_ | refine G.qmul (by omega) ?_ | refine G.qneg (by omega) ?_ | refine G.qkp ?_ | refine Gs.qkb ?_ | refine G.withT ?_ | refine Gs.withb ?_ | refine G.ift ?_ | refine G.iff ?_ | refine G.gdtt ?_ | refine G.gdff ?_ | refine G.gdtf ?_ | refine G.gdft ?_ | (refine G.jk ?_; intro _)))
        refine G.ifd ?_ ?_ <;> intro hlt
        · (repeat (first | refine G.add (by omega) ?_ | refine G.sub (by omega) ?_ | refine G.mul (by omega) ?_ | refine G.neg (by omega) ?_ | refine G.quo (by omega) (by omega) ?_ | refine G.rem (by omega) ?_ | refine G.shr (by omega) ?_ | refine G.conv (by omega) ?_ | refine G.step ?_ | refine G.buildA (by rfl) ?_ | (refine Gs.box ?_; intro _) | (refine Gs.alloc ?_; intro _) | refine Gs.store ?_ | refine G.retc ?_ | refine Gs.dr ?_ | refine G.qadd (by omega) ?_ | refine G.qsub (by omega) ?_ | refine G.qmul (by omega) ?_ | refine G.qneg (by omega) ?_ | refine G.qkp ?_ | refine Gs.qkb ?_ | refine G.withT ?_ | refine Gs.withb ?_ | refine G.ift ?_ | refine G.iff ?_ | refine G.gdtt ?_ | refine G.gdff ?_ | refine G.gdtf ?_ | refine G.gdft ?_ | (refine G.jk ?_; intro _)))
          refine Gs.buildSlice (by decide) ?_
          intro b7
          refine Gs.appendO (enc := encP) (l := [(7, (m : Int))]) (m := p) (x := ov) (e2 := 41) (by simp) (by simp only [List.length_singleton]; omega) (by simp only [List.length_singleton]; omega) ?_
          intro v'
          (repeat (first | refine G.add (by omega) ?_ | refine G.sub (by omega) ?_ | refine G.mul (by omega) ?_ | refine G.neg (by omega) ?_ | refine G.quo (by omega) (by omega) ?_ | refine G.rem (by omega) ?_ | refine G.shr (by omega) ?_ | refine G.conv (by omega) ?_ | refine G.step ?_ | refine G.buildA (by rfl) ?_ | (refine Gs.box ?_; intro _) | (refine Gs.alloc ?_; intro _) | refine Gs.store ?_ | refine G.retc ?_ | refine Gs.dr ?_ | refine G.qadd (by omega) ?_ | refine G.qsub (by omega) ?_ | refine G.qmul (by omega) ?_ | refine G.qneg (by omega) ?_ | refine G.qkp ?_ | refine Gs.qkb ?_ | refine G.withT ?_ | refine Gs.withb ?_ | refine G.ift ?_ | refine G.iff ?_ | refine G.gdtt ?_ | refine G.gdff ?_ | refine G.gdtf ?_ | refine G.gdft ?_ | (refine G.jk ?_; intro _)))
          exact Gs.goS (hk (m + 1, [(7, (m : Int))] ++ p, v') ⟨by dsimp only; omega, g.push (by omega)⟩ (by dsimp only; omega)) rfl
        · have : m = Q := by omega
          subst this
          clear hk
          refine Gs.lp (β := Nat × List Stp × Value) (fun b => (b.2.2, I b.1)) (fun _ => h2) (fun b => [.sl b.2.2 41 2 (fl encP b.2.1), .blk w1 [.int .u8 c0, .int .u8 c1, .int .u8 c2] 54]) (fun b => b.1 ≤ B ∧ Grown b.2.1 i k m b.1) (fun b => B - b.1) (0, p, ov) rfl ⟨Nat.zero_le _, g⟩ (fun _ h => h) ?_
          clear g hlen hlt hi
          rintro ⟨j, p, ov⟩ ⟨hi, g⟩ cont hk
          dsimp only at *
          have hlen := g.len
          (repeat (first | refine G.add (by omega) ?_ | refine G.sub (by omega) ?_ | refine G.mul (by omega) ?_ | refine G.neg (by omega) ?_ | refine G.quo (by omega) (by omega) ?_ | refine G.rem (by omega) ?_ | refine G.shr (by omega) ?_ | refine G.conv (by omega) ?_ | refine G.step ?_ | refine G.buildA (by rfl) ?_ | (refine Gs.box ?_; intro _) | (refine Gs.alloc ?_; intro _) | refine Gs.store ?_ | refine G.retc ?_ | refine Gs.dr ?_ | refine G.qadd (by omega) ?_ | refine G.qsub (by omega) ?_ | refine G.qmul (by omega) ?_ | refine G.qneg (by omega) ?_ | refine G.qkp ?_ | refine Gs.qkb ?_ | refine G.withT ?_ | refine Gs.withb ?_ | refine G.ift ?_ | refine G.iff ?_ | refine G.gdtt ?_ | refine G.gdff ?_ | refine G.gdtf ?_ | refine G.gdft ?_ | (refine G.jk ?_; intro _)))
          refine G.ifd ?_ ?_ <;> intro hlt
          · (repeat (first | refine G.add (by omega) ?_ | refine G.sub (by omega) ?_ | refine G.mul (by omega) ?_ | refine G.neg (by omega) ?_ | refine G.quo (by omega) (by omega) ?_ | refine G.rem (by omega) ?_ | refine G.shr (by omega) ?_ | refine G.conv (by omega) ?_ | refine G.step ?_ | refine G.buildA (by rfl) ?_ | (refine Gs.box ?_; intro _) | (refine Gs.alloc ?_; intro _) | refine Gs.store ?_ | refine G.retc ?_ | refine Gs.dr ?_ | refine G.qadd (by omega) ?_ | refine G.qsub (by omega) ?_ | refine G.qmul (by omega) ?_ | refine G.qneg (by omega) ?_ | refine G.qkp ?_ | refine Gs.qkb ?_ | refine G.withT ?_ | refine Gs.withb ?_ | refine G.ift ?_ | refine G.iff ?_ | refine G.gdtt ?_ | refine G.gdff ?_ | refine G.gdtf ?_ | refine G.gdft ?_ | (refine G.jk ?_; intro _)))
            refine Gs.buildSlice (by decide) ?_
            intro b7
            refine Gs.appendO (enc := encP) (l := p) (m := [(8, 5 - (j : Int))]) (x := .slice (some ⟨b7, 0, none⟩) 1 1) (e2 := 41) (by simp [fl]) (by simp only [List.length_singleton]; omega) (by simp only [List.length_singleton]; omega) ?_
            intro v'
            (repeat (first | refine G.add (by omega) ?_ | refine G.sub (by omega) ?_ | refine G.mul (by omega) ?_ | refine G.neg (by omega) ?_ | refine G.quo (by omega) (by omega) ?_ | refine G.rem (by omega) ?_ | refine G.shr (by omega) ?_ | refine G.conv (by omega) ?_ | refine G.step ?_ | refine G.buildA (by rfl) ?_ | (refine Gs.box ?_; intro _) | (refine Gs.alloc ?_; intro _) | refine Gs.store ?_ | refine G.retc ?_ | refine Gs.dr ?_ | refine G.qadd (by omega) ?_ | refine G.qsub (by omega) ?_ | refine G.qmul (by omega) ?_ | refine G.qneg (by omega) ?_ | refine G.qkp ?_ | refine Gs.qkb ?_ | refine G.withT ?_ | refine Gs.withb ?_ | refine G.ift ?_ | refine G.iff ?_ | refine G.gdtt ?_ | refine G.gdff ?_ | refine G.gdtf ?_ | refine G.gdft ?_ | (refine G.jk ?_; intro _)))
            exact Gs.goS (hk (j + 1, p ++ [(8, 5 - (j : Int))], v') ⟨by dsimp only; omega, g.become (by omega)⟩ (by dsimp only; omega)) rfl
          · have : j = B := by omega
            subst this
            clear hk
            refine Gs.freezeE (v := ov) (enc := encP) (by decide) ?_
            intro h3 hle3 rp
            have hE := hE.mono hle3
            have hval := g.valid
            have htk := g.t
            refine G.jnP (fun v => v = .bool (validB p 8 6 4)) ?_ ?_
            · rintro _ rfl
              (repeat (first | refine G.add (by omega) ?_ | refine G.sub (by omega) ?_ | refine G.mul (by omega) ?_ | refine G.neg (by omega) ?_ | refine G.quo (by omega) (by omega) ?_ | refine G.rem (by omega) ?_ | refine G.shr (by omega) ?_ | refine G.conv (by omega) ?_ | refine G.step ?_ | refine G.buildA (by rfl) ?_ | (refine Gs.box ?_; intro _) | (refine Gs.alloc ?_; intro _) | refine Gs.store ?_ | refine G.retc ?_ | refine Gs.dr ?_ | refine G.qadd (by omega) ?_ | refine G.qsub (by omega) ?_ | refine G.qmul (by omega) ?_ | refine G.qneg (by omega) ?_ | refine G.qkp ?_ | refine Gs.qkb ?_ | refine G.withT ?_ | refine Gs.withb ?_ | refine G.ift ?_ | refine G.iff ?_ | refine G.gdtt ?_ | refine G.gdff ?_ | refine G.gdtf ?_ | refine G.gdft ?_ | (refine G.jk ?_; intro _)))
              refine valid_call p 8 6 4 rp (by omega) rfl ?_
              (repeat (first | refine G.add (by omega) ?_ | refine G.sub (by omega) ?_ | refine G.mul (by omega) ?_ | refine G.neg (by omega) ?_ | refine G.quo (by omega) (by omega) ?_ | refine G.rem (by omega) ?_ | refine G.shr (by omega) ?_ | refine G.conv (by omega) ?_ | refine G.step ?_ | refine G.buildA (by rfl) ?_ | (refine Gs.box ?_; intro _) | (refine Gs.alloc ?_; intro _) | refine Gs.store ?_ | refine G.retc ?_ | refine Gs.dr ?_ | refine G.qadd (by omega) ?_ | refine G.qsub (by omega) ?_ | refine G.qmul (by omega) ?_ | refine G.qneg (by omega) ?_ | refine G.qkp ?_ | refine Gs.qkb ?_ | refine G.withT ?_ | refine Gs.withb ?_ | refine G.ift ?_ | refine G.iff ?_ | refine G.gdtt ?_ | refine G.gdff ?_ | refine G.gdtf ?_ | refine G.gdft ?_ | (refine G.jk ?_; intro _)| refine G.gdbn (by first | (simp; done) | omega) ?_ | refine G.gdby (by first | (simp; done) | omega) ?_ | refine G.gdyf (by first | (simp; done) | omega) ?_ | refine G.gdy (by first | (simp; done) | omega) ?_ | refine G.gdn (by first | (simp; done) | omega) ?_ | refine G.gdnf (by first | (simp; done) | omega) ?_ | refine G.ify (by first | (simp; done) | omega) ?_ | refine G.ifn (by first | (simp; done) | omega) ?_))
              refine print_call p hE rp (by omega) ?_
              (repeat (first | refine G.add (by omega) ?_ | refine G.sub (by omega) ?_ | refine G.mul (by omega) ?_ | refine G.neg (by omega) ?_ | refine G.quo (by omega) (by omega) ?_ | refine G.rem (by omega) ?_ | refine G.shr (by omega) ?_ | refine G.conv (by omega) ?_ | refine G.step ?_ | refine G.buildA (by rfl) ?_ | (refine Gs.box ?_; intro _) | (refine Gs.alloc ?_; intro _) | refine Gs.store ?_ | refine G.retc ?_ | refine Gs.dr ?_ | refine G.qadd (by omega) ?_ | refine G.qsub (by omega) ?_ | refine G.qmul (by omega) ?_ | refine G.qneg (by omega) ?_ | refine G.qkp ?_ | refine Gs.qkb ?_ | refine G.withT ?_ | refine Gs.withb ?_ | refine G.ift ?_ | refine G.iff ?_ | refine G.gdtt ?_ | refine G.gdff ?_ | refine G.gdtf ?_ | refine G.gdft ?_ | (refine G.jk ?_; intro _)))
              have e1 : decide (printP p ≠ []) = validB p 8 6 4 := by
                cases hv : validB p 8 6 4
                · refine decide_eq_false fun h => h ?_
                  unfold printP
                  rw [hv]
                  rfl
                · exact decide_eq_true (print_ne hv)
              refine G.gdy e1 ?_
              refine takes_call p rp (by omega) ?_
              (repeat (first | refine G.add (by omega) ?_ | refine G.sub (by omega) ?_ | refine G.mul (by omega) ?_ | refine G.neg (by omega) ?_ | refine G.quo (by omega) (by omega) ?_ | refine G.rem (by omega) ?_ | refine G.shr (by omega) ?_ | refine G.conv (by omega) ?_ | refine G.step ?_ | refine G.buildA (by rfl) ?_ | (refine Gs.box ?_; intro _) | (refine Gs.alloc ?_; intro _) | refine Gs.store ?_ | refine G.retc ?_ | refine Gs.dr ?_ | refine G.qadd (by omega) ?_ | refine G.qsub (by omega) ?_ | refine G.qmul (by omega) ?_ | refine G.qneg (by omega) ?_ | refine G.qkp ?_ | refine Gs.qkb ?_ | refine G.withT ?_ | refine Gs.withb ?_ | refine G.ift ?_ | refine G.iff ?_ | refine G.gdtt ?_ | refine G.gdff ?_ | refine G.gdtf ?_ | refine G.gdft ?_ | (refine G.jk ?_; intro _)))
              refine G.gdy (by rw [htk, decide_eq_decide]; omega) ?_
              exact Gs.ret rfl
            · intro k72 hk72
              have hno : ¬ (1 ≤ p.length ∧ p.length ≤ 8 ∧ k ≤ 2 ∧ m ≤ 1 ∧ j ≤ 1) → Gs w0 h h3 [.blk w1 [.int .u8 c0, .int .u8 c1, .int .u8 c2] 54] (k72 (.bool false)) := fun hh => hk72 _ (by rw [hval, decide_eq_false hh])
              refine Gs.lenE rp (by omega) ?_
              (repeat (first | refine G.add (by omega) ?_ | refine G.sub (by omega) ?_ | refine G.mul (by omega) ?_ | refine G.neg (by omega) ?_ | refine G.quo (by omega) (by omega) ?_ | refine G.rem (by omega) ?_ | refine G.shr (by omega) ?_ | refine G.conv (by omega) ?_ | refine G.step ?_ | refine G.buildA (by rfl) ?_ | (refine Gs.box ?_; intro _) | (refine Gs.alloc ?_; intro _) | refine Gs.store ?_ | refine G.retc ?_ | refine Gs.dr ?_ | refine G.qadd (by omega) ?_ | refine G.qsub (by omega) ?_ | refine G.qmul (by omega) ?_ | refine G.qneg (by omega) ?_ | refine G.qkp ?_ | refine Gs.qkb ?_ | refine G.withT ?_ | refine Gs.withb ?_ | refine G.ift ?_ | refine G.iff ?_ | refine G.gdtt ?_ | refine G.gdff ?_ | refine G.gdtf ?_ | refine G.gdft ?_ | (refine G.jk ?_; intro _)))
              refine G.gddt ?_ ?_ <;> intro t1
              · refine Gs.lenE rp (by omega) ?_
                (repeat (first | refine G.add (by omega) ?_ | refine G.sub (by omega) ?_ | refine G.mul (by omega) ?_ | refine G.neg (by omega) ?_ | refine G.quo (by omega) (by omega) ?_ | refine G.rem (by omega) ?_ | refine G.shr (by omega) ?_ | refine G.conv (by omega) ?_ | refine G.step ?_ | refine G.buildA (by rfl) ?_ | (refine Gs.box ?_; intro _) | (refine Gs.alloc ?_; intro _) | refine Gs.store ?_ | refine G.retc ?_ | refine Gs.dr ?_ | refine G.qadd (by omega) ?_ | refine G.qsub (by omega) ?_ | refine G.qmul (by omega) ?_ | refine G.qneg (by omega) ?_ | refine G.qkp ?_ | refine Gs.qkb ?_ | refine G.withT ?_ | refine Gs.withb ?_ | refine G.ift ?_ | refine G.iff ?_ | refine G.gdtt ?_ | refine G.gdff ?_ | refine G.gdtf ?_ | refine G.gdft ?_ | (refine G.jk ?_; intro _)))
                refine G.gddt ?_ ?_ <;> intro t2
                · (repeat (first | refine G.add (by omega) ?_ | refine G.sub (by omega) ?_ | refine G.mul (by omega) ?_ | refine G.neg (by omega) ?_ | refine G.quo (by omega) (by omega) ?_ | refine G.rem (by omega) ?_ | refine G.shr (by omega) ?_ | refine G.conv (by omega) ?_ | refine G.step ?_ | refine G.buildA (by rfl) ?_ | (refine Gs.box ?_; intro _) | (refine Gs.alloc ?_; intro _) | refine Gs.store ?_ | refine G.retc ?_ | refine Gs.dr ?_ | refine G.qadd (by omega) ?_ | refine G.qsub (by omega) ?_ | refine G.qmul (by omega) ?_ | refine G.qneg (by omega) ?_ | refine G.qkp ?_ | refine Gs.qkb ?_ | refine G.withT ?_ | refine Gs.withb ?_ | refine G.ift ?_ | refine G.iff ?_ | refine G.gdtt ?_ | refine G.gdff ?_ | refine G.gdtf ?_ | refine G.gdft ?_ | (refine G.jk ?_; intro _)))
                  refine G.gddt ?_ ?_ <;> intro t3
                  · (repeat (first | refine G.add (by omega) ?_ | refine G.sub (by omega) ?_ | refine G.mul (by omega) ?_ | refine G.neg (by omega) ?_ | refine G.quo (by omega) (by omega) ?_ | refine G.rem (by omega) ?_ | refine G.shr (by omega) ?_ | refine G.conv (by omega) ?_ | refine G.step ?_ | refine G.buildA (by rfl) ?_ | (refine Gs.box ?_; intro _) | (refine Gs.alloc ?_; intro _) | refine Gs.store ?_ | refine G.retc ?_ | refine Gs.dr ?_ | refine G.qadd (by omega) ?_ | refine G.qsub (by omega) ?_ | refine G.qmul (by omega) ?_ | refine G.qneg (by omega) ?_ | refine G.qkp ?_ | refine Gs.qkb ?_ | refine G.withT ?_ | refine Gs.withb ?_ | refine G.ift ?_ | refine G.iff ?_ | refine G.gdtt ?_ | refine G.gdff ?_ | refine G.gdtf ?_ | refine G.gdft ?_ | (refine G.jk ?_; intro _)))
                    refine G.gddt ?_ ?_ <;> intro t4
                    · (repeat (first | refine G.add (by omega) ?_ | refine G.sub (by omega) ?_ | refine G.mul (by omega) ?_ | refine G.neg (by omega) ?_ | refine G.quo (by omega) (by omega) ?_ | refine G.rem (by omega) ?_ | refine G.shr (by omega) ?_ | refine G.conv (by omega) ?_ | refine G.step ?_ | refine G.buildA (by rfl) ?_ | (refine Gs.box ?_; intro _) | (refine Gs.alloc ?_; intro _) | refine Gs.store ?_ | refine G.retc ?_ | refine Gs.dr ?_ | refine G.qadd (by omega) ?_ | refine G.qsub (by omega) ?_ | refine G.qmul (by omega) ?_ | refine G.qneg (by omega) ?_ | refine G.qkp ?_ | refine Gs.qkb ?_ | refine G.withT ?_ | refine Gs.withb ?_ | refine G.ift ?_ | refine G.iff ?_ | refine G.gdtt ?_ | refine G.gdff ?_ | refine G.gdtf ?_ | refine G.gdft ?_ | (refine G.jk ?_; intro _)))
                      refine hk72 _ ?_
                      rw [hval]
                      refine congrArg Value.bool ?_
                      rw [decide_eq_decide]
                      omega
                    · exact hno (by omega)
                  · exact hno (by omega)
                · exact hno (by omega)
              · exact hno (by omega)
end Go.Proofs.YtlljhipmnkdpeaaGreatDoor
