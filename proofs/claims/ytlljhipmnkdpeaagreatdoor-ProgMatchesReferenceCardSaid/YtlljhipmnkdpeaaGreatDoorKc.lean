/-
  Lemmas for the proof of the statement of this claim: a part of the road, no statement of its own. Conditions: those that each lemma names.
-/
import Derived.Test.YtlljhipmnkdpeaaGreatDoorKm
import Derived.Test.YtlljhipmnkdpeaaGreatDoorKs
import Derived.Test.YtlljhipmnkdpeaaGreatDoorSh
import Derived.Lib.SmallJoins
import Derived.Lib.AtoiAllCases
section
set_option linter.unusedVariables false
set_option maxHeartbeats 4000000
namespace Go.Proofs.YtlljhipmnkdpeaaGreatDoor
open Go Go.Sk Go.Pr
def rowsL : List Value := [Str [], I 0, Str [103, 111], I 1, Str [115, 108, 105, 100, 101], I 1, Str [101, 109, 112, 116, 121], I 0, Str [101, 110, 101, 109, 121], I 0, Str [102, 114, 105, 101, 110, 100], I 0, Str [116, 97, 107, 101], I 0, Str [112, 117, 115, 104], I 1, Str [98, 101, 99, 111, 109, 101], I 2, Str [110, 101, 101, 100], I 3, Str [108, 111, 115, 101], I 3]
theorem rows_ok (h : Hp) : Ct Tryz.prog 44 [] h (fun _ v => v = .agg rowsL.toArray) := by
  refine ct44 ?_
  intro w0
  unfold s44
  (repeat (first | refine G.add (by omega) ?_ | refine G.sub (by omega) ?_ | refine G.mul (by omega) ?_ | refine G.neg (by omega) ?_ | refine G.quo (by omega) (by omega) ?_ | refine G.rem (by omega) ?_ | refine G.shr (by omega) ?_ | refine G.conv (by omega) ?_ | refine G.step ?_ | refine G.buildA (by rfl) ?_ | (refine Gs.box ?_; intro _) | (refine Gs.alloc ?_; intro _) | refine Gs.store ?_ | refine G.retc ?_ | refine Gs.dr ?_ | refine G.qadd (by omega) ?_ | refine G.qsub (by omega) ?_ | refine G.qmul (by omega) ?_ | refine G.qneg (by omega) ?_ | refine G.qkp ?_ | refine Gs.qkb ?_ | refine G.withT ?_ | refine Gs.withb ?_ | refine G.ift ?_ | refine G.iff ?_ | refine G.gdtt ?_ | refine G.gdff ?_ | refine G.gdtf ?_ | refine G.gdft ?_ | (refine G.jk ?_; intro _)))
  rename_i b
  refine ⟨fun w s => Do.of (r := .ok (.value (.agg rowsL.toArray)) w) (by kernel_rfl) ?_⟩
  have : Gs w0 h h [.blk b [Str [], I 0, Str [], I 0, Str [], I 0, Str [], I 0, Str [], I 0, Str [], I 0, Str [], I 0, Str [], I 0, Str [], I 0, Str [], I 0, Str [], I 0] 76] (Do Tryz.prog (U (Instr.storeAt 76 (ptr b 0) (.agg rowsL.toArray))) fun _ => RetC Tryz.prog 76 (ptr b 0) (RetP w0 h fun x v => v = .agg rowsL.toArray)) := by
    unfold rowsL
    (repeat (first | refine G.add (by omega) ?_ | refine G.sub (by omega) ?_ | refine G.mul (by omega) ?_ | refine G.neg (by omega) ?_ | refine G.quo (by omega) (by omega) ?_ | refine G.rem (by omega) ?_ | refine G.shr (by omega) ?_ | refine G.conv (by omega) ?_ | refine G.step ?_ | refine G.buildA (by rfl) ?_ | (refine Gs.box ?_; intro _) | (refine Gs.alloc ?_; intro _) | refine Gs.store ?_ | refine G.retc ?_ | refine Gs.dr ?_ | refine G.qadd (by omega) ?_ | refine G.qsub (by omega) ?_ | refine G.qmul (by omega) ?_ | refine G.qneg (by omega) ?_ | refine G.qkp ?_ | refine Gs.qkb ?_ | refine G.withT ?_ | refine Gs.withb ?_ | refine G.ift ?_ | refine G.iff ?_ | refine G.gdtt ?_ | refine G.gdff ?_ | refine G.gdtf ?_ | refine G.gdft ?_ | (refine G.jk ?_; intro _)))
    exact Gs.ret rfl
  exact this.run w s
end Go.Proofs.YtlljhipmnkdpeaaGreatDoor
end

section
set_option linter.unusedVariables false
set_option maxHeartbeats 4000000
namespace Go.Proofs.YtlljhipmnkdpeaaGreatDoor
open Go Go.Sk Go.Pr
theorem rowsL_at (op : Int) (h : 0 ≤ op ∧ op ≤ 10) : (rowsL.drop (op.toNat * 2)).take 2 = [Str (word op), I (num op)] := by
  have h1 : op = 0 ∨ op = 1 ∨ op = 2 ∨ op = 3 ∨ op = 4 ∨ op = 5 ∨ op = 6 ∨ op = 7 ∨ op = 8 ∨ op = 9 ∨ op = 10 := by omega
  rcases h1 with rfl | rfl | rfl | rfl | rfl | rfl | rfl | rfl | rfl | rfl | rfl <;> rfl
theorem word_out (op : Int) (h : ¬ (1 ≤ op ∧ op ≤ 10)) : word op = [] ∧ num op = 0 := by
  unfold word num
  constructor
  · repeat' (split; omega)
    rfl
  · repeat' (split; omega)
    rfl
theorem find_ok (op : Int) (h : Hp) : Ct Tryz.prog 30 [I op] h (fun _ v => v = .tuple #[.agg #[Str (word op), I (num op)], .bool (okOp op)]) := by
  refine ct30 ?_
  intro w0
  unfold s30
  (repeat (first | refine G.add (by omega) ?_ | refine G.sub (by omega) ?_ | refine G.mul (by omega) ?_ | refine G.neg (by omega) ?_ | refine G.quo (by omega) (by omega) ?_ | refine G.rem (by omega) ?_ | refine G.shr (by omega) ?_ | refine G.conv (by omega) ?_ | refine G.step ?_ | refine G.buildA (by rfl) ?_ | (refine Gs.box ?_; intro _) | (refine Gs.alloc ?_; intro _) | refine Gs.store ?_ | refine G.retc ?_ | refine Gs.dr ?_ | refine G.qadd (by omega) ?_ | refine G.qsub (by omega) ?_ | refine G.qmul (by omega) ?_ | refine G.qneg (by omega) ?_ | refine G.qkp ?_ | refine Gs.qkb ?_ | refine G.withT ?_ | refine Gs.withb ?_ | refine G.ift ?_ | refine G.iff ?_ | refine G.gdtt ?_ | refine G.gdff ?_ | refine G.gdtf ?_ | refine G.gdft ?_ | (refine G.jk ?_; intro _)))
  refine G.jnP (fun a => a = .bool (!okOp op)) ?_ ?_
  · rintro a rfl
    refine G.jk ?_
    intro _
    by_cases ho : 1 ≤ op ∧ op ≤ 10
    · have hb : okOp op = true := decide_eq_true ho
      rw [hb]
      (repeat (first | refine G.add (by omega) ?_ | refine G.sub (by omega) ?_ | refine G.mul (by omega) ?_ | refine G.neg (by omega) ?_ | refine G.quo (by omega) (by omega) ?_ | refine G.rem (by omega) ?_ | refine G.shr (by omega) ?_ | refine G.conv (by omega) ?_ | refine G.step ?_ | refine G.buildA (by rfl) ?_ | (refine Gs.box ?_; intro _) | (refine Gs.alloc ?_; intro _) | refine Gs.store ?_ | refine G.retc ?_ | refine Gs.dr ?_ | refine G.qadd (by omega) ?_ | refine G.qsub (by omega) ?_ | refine G.qmul (by omega) ?_ | refine G.qneg (by omega) ?_ | refine G.qkp ?_ | refine Gs.qkb ?_ | refine G.withT ?_ | refine Gs.withb ?_ | refine G.ift ?_ | refine G.iff ?_ | refine G.gdtt ?_ | refine G.gdff ?_ | refine G.gdtf ?_ | refine G.gdft ?_ | (refine G.jk ?_; intro _)))
      refine Gs.callv0 (rows_ok h) ?_
      refine G.indexVN (s := [Str (word op), I (num op)]) (n := 11) ⟨by omega, by omega⟩ (rowsL_at op ⟨by omega, by omega⟩) rfl ?_
      (repeat (first | refine G.add (by omega) ?_ | refine G.sub (by omega) ?_ | refine G.mul (by omega) ?_ | refine G.neg (by omega) ?_ | refine G.quo (by omega) (by omega) ?_ | refine G.rem (by omega) ?_ | refine G.shr (by omega) ?_ | refine G.conv (by omega) ?_ | refine G.step ?_ | refine G.buildA (by rfl) ?_ | (refine Gs.box ?_; intro _) | (refine Gs.alloc ?_; intro _) | refine Gs.store ?_ | refine G.retc ?_ | refine Gs.dr ?_ | refine G.qadd (by omega) ?_ | refine G.qsub (by omega) ?_ | refine G.qmul (by omega) ?_ | refine G.qneg (by omega) ?_ | refine G.qkp ?_ | refine Gs.qkb ?_ | refine G.withT ?_ | refine Gs.withb ?_ | refine G.ift ?_ | refine G.iff ?_ | refine G.gdtt ?_ | refine G.gdff ?_ | refine G.gdtf ?_ | refine G.gdft ?_ | (refine G.jk ?_; intro _)))
      exact Gs.ret rfl
    · have hb : okOp op = false := decide_eq_false ho
      obtain ⟨h1, h2⟩ := word_out op ho
      rw [hb]
      (repeat (first | refine G.add (by omega) ?_ | refine G.sub (by omega) ?_ | refine G.mul (by omega) ?_ | refine G.neg (by omega) ?_ | refine G.quo (by omega) (by omega) ?_ | refine G.rem (by omega) ?_ | refine G.shr (by omega) ?_ | refine G.conv (by omega) ?_ | refine G.step ?_ | refine G.buildA (by rfl) ?_ | (refine Gs.box ?_; intro _) | (refine Gs.alloc ?_; intro _) | refine Gs.store ?_ | refine G.retc ?_ | refine Gs.dr ?_ | refine G.qadd (by omega) ?_ | refine G.qsub (by omega) ?_ | refine G.qmul (by omega) ?_ | refine G.qneg (by omega) ?_ | refine G.qkp ?_ | refine Gs.qkb ?_ | refine G.withT ?_ | refine Gs.withb ?_ | refine G.ift ?_ | refine G.iff ?_ | refine G.gdtt ?_ | refine G.gdff ?_ | refine G.gdtf ?_ | refine G.gdft ?_ | (refine G.jk ?_; intro _)))
      exact Gs.ret (by rw [h1, h2])
  · intro K hK
    ((repeat (first | refine G.add (by omega) ?_ | refine G.sub (by omega) ?_ | refine G.mul (by omega) ?_ | refine G.neg (by omega) ?_ | refine G.quo (by omega) (by omega) ?_ | refine G.rem (by omega) ?_ | refine G.shr (by omega) ?_ | refine G.conv (by omega) ?_ | refine G.step ?_ | refine G.buildA (by rfl) ?_ | (refine Gs.box ?_; intro _) | (refine Gs.alloc ?_; intro _) | refine Gs.store ?_ | refine G.retc ?_ | refine Gs.dr ?_ | refine G.qadd (by omega) ?_ | refine G.qsub (by omega) ?_ | refine G.qmul (by omega) ?_ | refine G.qneg (by omega) ?_ | refine G.qkp ?_ | refine Gs.qkb ?_ | refine G.withT ?_ | refine Gs.withb ?_ | refine G.ift ?_ | refine G.iff ?_ | refine G.gdtt ?_ | refine G.gdff ?_ | refine G.gdtf ?_ | refine G.gdft ?_ | refine G.jn ?_ | (refine G.jk ?_; intro _))); repeat (any_goals ((first | (refine G.ifd ?_ ?_ <;> intro _) | (refine G.ifb ?_ ?_ <;> intro _) | (refine G.gddt ?_ ?_ <;> intro _) | (refine G.gddf ?_ ?_ <;> intro _) | (refine G.gdbt ?_ ?_ <;> intro _) | (refine G.gdbf ?_ ?_ <;> intro _)) <;> (try (exfalso; omega; done)) <;> (repeat (first | refine G.add (by omega) ?_ | refine G.sub (by omega) ?_ | refine G.mul (by omega) ?_ | refine G.neg (by omega) ?_ | refine G.quo (by omega) (by omega) ?_ | refine G.rem (by omega) ?_ | refine G.shr (by omega) ?_ | refine G.conv (by omega) ?_ | refine G.step ?_ | refine G.buildA (by rfl) ?_ | (refine Gs.box ?_; intro _) | (refine Gs.alloc ?_; intro _) | refine Gs.store ?_ | refine G.retc ?_ | refine Gs.dr ?_ | refine G.qadd (by omega) ?_ | refine G.qsub (by omega) ?_ | refine G.qmul (by omega) ?_ | refine G.qneg (by omega) ?_ | refine G.qkp ?_ | refine Gs.qkb ?_ | refine G.withT ?_ | refine Gs.withb ?_ | refine G.ift ?_ | refine G.iff ?_ | refine G.gdtt ?_ | refine G.gdff ?_ | refine G.gdtf ?_ | refine G.gdft ?_ | refine G.jn ?_ | (refine G.jk ?_; intro _))))))
    · exact hK _ (by unfold okOp; congr 1; symm; simp; omega)
    · exact hK _ (by unfold okOp; congr 1; rw [← decide_not, decide_eq_decide]; omega)
theorem leads_ok (s : Stp) (h : Hp) : Ct Tryz.prog 35 [Sv s] h (fun _ v => v = .bool (leadB s.1)) := by
  refine ct35 ?_
  intro w0
  unfold s35
  (repeat (first | refine G.add (by omega) ?_ | refine G.sub (by omega) ?_ | refine G.mul (by omega) ?_ | refine G.neg (by omega) ?_ | refine G.quo (by omega) (by omega) ?_ | refine G.rem (by omega) ?_ | refine G.shr (by omega) ?_ | refine G.conv (by omega) ?_ | refine G.step ?_ | refine G.buildA (by rfl) ?_ | (refine Gs.box ?_; intro _) | (refine Gs.alloc ?_; intro _) | refine Gs.store ?_ | refine G.retc ?_ | refine Gs.dr ?_ | refine G.qadd (by omega) ?_ | refine G.qsub (by omega) ?_ | refine G.qmul (by omega) ?_ | refine G.qneg (by omega) ?_ | refine G.qkp ?_ | refine Gs.qkb ?_ | refine G.withT ?_ | refine Gs.withb ?_ | refine G.ift ?_ | refine G.iff ?_ | refine G.gdtt ?_ | refine G.gdff ?_ | refine G.gdtf ?_ | refine G.gdft ?_ | (refine G.jk ?_; intro _)))
  refine Gs.callv0 (find_ok s.1 h) ?_
  (repeat (first | refine G.add (by omega) ?_ | refine G.sub (by omega) ?_ | refine G.mul (by omega) ?_ | refine G.neg (by omega) ?_ | refine G.quo (by omega) (by omega) ?_ | refine G.rem (by omega) ?_ | refine G.shr (by omega) ?_ | refine G.conv (by omega) ?_ | refine G.step ?_ | refine G.buildA (by rfl) ?_ | (refine Gs.box ?_; intro _) | (refine Gs.alloc ?_; intro _) | refine Gs.store ?_ | refine G.retc ?_ | refine Gs.dr ?_ | refine G.qadd (by omega) ?_ | refine G.qsub (by omega) ?_ | refine G.qmul (by omega) ?_ | refine G.qneg (by omega) ?_ | refine G.qkp ?_ | refine Gs.qkb ?_ | refine G.withT ?_ | refine Gs.withb ?_ | refine G.ift ?_ | refine G.iff ?_ | refine G.gdtt ?_ | refine G.gdff ?_ | refine G.gdtf ?_ | refine G.gdft ?_ | (refine G.jk ?_; intro _)))
  exact Gs.ret (by rw [num_lead])
theorem rleads_ok (s : Stp) (h : Hp) : Ct Tryz.prog 27 [Sv s] h (fun _ v => v = .bool (leadB s.1)) := by
  refine ct27 ?_
  intro w0
  unfold s27
  ((repeat (first | refine G.add (by omega) ?_ | refine G.sub (by omega) ?_ | refine G.mul (by omega) ?_ | refine G.neg (by omega) ?_ | refine G.quo (by omega) (by omega) ?_ | refine G.rem (by omega) ?_ | refine G.shr (by omega) ?_ | refine G.conv (by omega) ?_ | refine G.step ?_ | refine G.buildA (by rfl) ?_ | (refine Gs.box ?_; intro _) | (refine Gs.alloc ?_; intro _) | refine Gs.store ?_ | refine G.retc ?_ | refine Gs.dr ?_ | refine G.qadd (by omega) ?_ | refine G.qsub (by omega) ?_ | refine G.qmul (by omega) ?_ | refine G.qneg (by omega) ?_ | refine G.qkp ?_ | refine Gs.qkb ?_ | refine G.withT ?_ | refine Gs.withb ?_ | refine G.ift ?_ | refine G.iff ?_ | refine G.gdtt ?_ | refine G.gdff ?_ | refine G.gdtf ?_ | refine G.gdft ?_ | refine G.jn ?_ | (refine G.jk ?_; intro _))); repeat (any_goals ((first | (refine G.ifd ?_ ?_ <;> intro _) | (refine G.ifb ?_ ?_ <;> intro _) | (refine G.gddt ?_ ?_ <;> intro _) | (refine G.gddf ?_ ?_ <;> intro _) | (refine G.gdbt ?_ ?_ <;> intro _) | (refine G.gdbf ?_ ?_ <;> intro _)) <;> (try (exfalso; omega; done)) <;> (repeat (first | refine G.add (by omega) ?_ | refine G.sub (by omega) ?_ | refine G.mul (by omega) ?_ | refine G.neg (by omega) ?_ | refine G.quo (by omega) (by omega) ?_ | refine G.rem (by omega) ?_ | refine G.shr (by omega) ?_ | refine G.conv (by omega) ?_ | refine G.step ?_ | refine G.buildA (by rfl) ?_ | (refine Gs.box ?_; intro _) | (refine Gs.alloc ?_; intro _) | refine Gs.store ?_ | refine G.retc ?_ | refine Gs.dr ?_ | refine G.qadd (by omega) ?_ | refine G.qsub (by omega) ?_ | refine G.qmul (by omega) ?_ | refine G.qneg (by omega) ?_ | refine G.qkp ?_ | refine Gs.qkb ?_ | refine G.withT ?_ | refine Gs.withb ?_ | refine G.ift ?_ | refine G.iff ?_ | refine G.gdtt ?_ | refine G.gdff ?_ | refine G.gdtf ?_ | refine G.gdft ?_ | refine G.jn ?_ | (refine G.jk ?_; intro _))))))
  all_goals
    refine Gs.ret ?_
    unfold leadB
    refine congrArg Value.bool ?_
    first
      | (symm; rw [decide_eq_true_iff]; omega)
      | (rw [decide_eq_decide]; omega)
theorem in_ok (n l : Int) (h : Hp) : Ct Tryz.prog 46 [I n, I l] h (fun _ v => v = .bool (decide (0 ≤ n ∧ n < l))) := by
  refine ct46 ?_
  intro w0
  unfold s46
  ((repeat (first | refine G.add (by omega) ?_ | refine G.sub (by omega) ?_ | refine G.mul (by omega) ?_ | refine G.neg (by omega) ?_ | refine G.quo (by omega) (by omega) ?_ | refine G.rem (by omega) ?_ | refine G.shr (by omega) ?_ | refine G.conv (by omega) ?_ | refine G.step ?_ | refine G.buildA (by rfl) ?_ | (refine Gs.box ?_; intro _) | (refine Gs.alloc ?_; intro _) | refine Gs.store ?_ | refine G.retc ?_ | refine Gs.dr ?_ | refine G.qadd (by omega) ?_ | refine G.qsub (by omega) ?_ | refine G.qmul (by omega) ?_ | refine G.qneg (by omega) ?_ | refine G.qkp ?_ | refine Gs.qkb ?_ | refine G.withT ?_ | refine Gs.withb ?_ | refine G.ift ?_ | refine G.iff ?_ | refine G.gdtt ?_ | refine G.gdff ?_ | refine G.gdtf ?_ | refine G.gdft ?_ | refine G.jn ?_ | (refine G.jk ?_; intro _))); repeat (any_goals ((first | (refine G.ifd ?_ ?_ <;> intro _) | (refine G.ifb ?_ ?_ <;> intro _) | (refine G.gddt ?_ ?_ <;> intro _) | (refine G.gddf ?_ ?_ <;> intro _) | (refine G.gdbt ?_ ?_ <;> intro _) | (refine G.gdbf ?_ ?_ <;> intro _)) <;> (try (exfalso; omega; done)) <;> (repeat (first | refine G.add (by omega) ?_ | refine G.sub (by omega) ?_ | refine G.mul (by omega) ?_ | refine G.neg (by omega) ?_ | refine G.quo (by omega) (by omega) ?_ | refine G.rem (by omega) ?_ | refine G.shr (by omega) ?_ | refine G.conv (by omega) ?_ | refine G.step ?_ | refine G.buildA (by rfl) ?_ | (refine Gs.box ?_; intro _) | (refine Gs.alloc ?_; intro _) | refine Gs.store ?_ | refine G.retc ?_ | refine Gs.dr ?_ | refine G.qadd (by omega) ?_ | refine G.qsub (by omega) ?_ | refine G.qmul (by omega) ?_ | refine G.qneg (by omega) ?_ | refine G.qkp ?_ | refine Gs.qkb ?_ | refine G.withT ?_ | refine Gs.withb ?_ | refine G.ift ?_ | refine G.iff ?_ | refine G.gdtt ?_ | refine G.gdff ?_ | refine G.gdtf ?_ | refine G.gdft ?_ | refine G.jn ?_ | (refine G.jk ?_; intro _))))))
  all_goals
    refine Gs.ret ?_
    refine congrArg Value.bool ?_
    first
      | (symm; rw [decide_eq_false_iff_not]; omega)
      | (rw [decide_eq_decide]; omega)
instance lx0 {S : WP} {b : Nat} : Yd Tryz.prog S (V (Instr.indexAt 59 (ptr b 0) (.int .i64 0))) (ptr b 0) := Yd.ixA (sz := 1) (e := 3) (n := 4) ⟨by decide, by decide⟩ rfl
instance lx1 {S : WP} {b : Nat} : Yd Tryz.prog S (V (Instr.indexAt 59 (ptr b 0) (.int .i64 1))) (ptr b 1) := Yd.ixA (sz := 1) (e := 3) (n := 4) ⟨by decide, by decide⟩ rfl
instance lx2 {S : WP} {b : Nat} : Yd Tryz.prog S (V (Instr.indexAt 59 (ptr b 0) (.int .i64 2))) (ptr b 2) := Yd.ixA (sz := 1) (e := 3) (n := 4) ⟨by decide, by decide⟩ rfl
instance lx3 {S : WP} {b : Nat} : Yd Tryz.prog S (V (Instr.indexAt 59 (ptr b 0) (.int .i64 3))) (ptr b 3) := Yd.ixA (sz := 1) (e := 3) (n := 4) ⟨by decide, by decide⟩ rfl
/-- The closure of Valid: is a step odd? -/
theorem odd_call {w0 : World} {h0 h : Hp} {L : List Itm} {K : Value → WP} {b : Nat} (s : Stp) (d k r : Int) [hb : Blk L b [I 1, I d, I k, I r] 59] (hk : Gs w0 h0 h L (K (.bool (!stepB s d k r)))) : Gs w0 h0 h L (Do Tryz.prog (vCall (.func (.func 29) #[] ⟨[ptr b 0]⟩) [Sv s]) K) := by
  refine G.capsA (all := [Sv s, ptr b 0]) rfl (in29 (arg0 := Sv s) (arg1 := ptr b 0) ?_)
  unfold s29
  (repeat (first | refine G.add (by omega) ?_ | refine G.sub (by omega) ?_ | refine G.mul (by omega) ?_ | refine G.neg (by omega) ?_ | refine G.quo (by omega) (by omega) ?_ | refine G.rem (by omega) ?_ | refine G.shr (by omega) ?_ | refine G.conv (by omega) ?_ | refine G.step ?_ | refine G.buildA (by rfl) ?_ | (refine Gs.box ?_; intro _) | (refine Gs.alloc ?_; intro _) | refine Gs.store ?_ | refine G.retc ?_ | refine Gs.dr ?_ | refine G.qadd (by omega) ?_ | refine G.qsub (by omega) ?_ | refine G.qmul (by omega) ?_ | refine G.qneg (by omega) ?_ | refine G.qkp ?_ | refine Gs.qkb ?_ | refine G.withT ?_ | refine Gs.withb ?_ | refine G.ift ?_ | refine G.iff ?_ | refine G.gdtt ?_ | refine G.gdff ?_ | refine G.gdtf ?_ | refine G.gdft ?_ | (refine G.jk ?_; intro _)))
  refine Gs.callv0 (find_ok s.1 h) ?_
  have hnb := num_bd s.1
  (repeat (first | refine G.add (by omega) ?_ | refine G.sub (by omega) ?_ | refine G.mul (by omega) ?_ | refine G.neg (by omega) ?_ | refine G.quo (by omega) (by omega) ?_ | refine G.rem (by omega) ?_ | refine G.shr (by omega) ?_ | refine G.conv (by omega) ?_ | refine G.step ?_ | refine G.buildA (by rfl) ?_ | (refine Gs.box ?_; intro _) | (refine Gs.alloc ?_; intro _) | refine Gs.store ?_ | refine G.retc ?_ | refine Gs.dr ?_ | refine G.qadd (by omega) ?_ | refine G.qsub (by omega) ?_ | refine G.qmul (by omega) ?_ | refine G.qneg (by omega) ?_ | refine G.qkp ?_ | refine Gs.qkb ?_ | refine G.withT ?_ | refine Gs.withb ?_ | refine G.ift ?_ | refine G.iff ?_ | refine G.gdtt ?_ | refine G.gdff ?_ | refine G.gdtf ?_ | refine G.gdft ?_ | (refine G.jk ?_; intro _)))
  by_cases ho : okOp s.1 = true
  · have ho' : 1 ≤ s.1 ∧ s.1 ≤ 10 := of_decide_eq_true ho
    rw [ho]
    (repeat (first | refine G.add (by omega) ?_ | refine G.sub (by omega) ?_ | refine G.mul (by omega) ?_ | refine G.neg (by omega) ?_ | refine G.quo (by omega) (by omega) ?_ | refine G.rem (by omega) ?_ | refine G.shr (by omega) ?_ | refine G.conv (by omega) ?_ | refine G.step ?_ | refine G.buildA (by rfl) ?_ | (refine Gs.box ?_; intro _) | (refine Gs.alloc ?_; intro _) | refine Gs.store ?_ | refine G.retc ?_ | refine Gs.dr ?_ | refine G.qadd (by omega) ?_ | refine G.qsub (by omega) ?_ | refine G.qmul (by omega) ?_ | refine G.qneg (by omega) ?_ | refine G.qkp ?_ | refine Gs.qkb ?_ | refine G.withT ?_ | refine Gs.withb ?_ | refine G.ift ?_ | refine G.iff ?_ | refine G.gdtt ?_ | refine G.gdff ?_ | refine G.gdtf ?_ | refine G.gdft ?_ | (refine G.jk ?_; intro _)))
    refine G.gddf ?_ ?_ <;> intro h1
    · have e : stepB s d k r = false := decide_eq_false (by omega)
      rw [e] at hk
      exact Gs.sel hk
    · have hidx : ∃ v, ((num s.1 = 0 ∧ v = (1 : Int)) ∨ (num s.1 = 1 ∧ v = d) ∨ (num s.1 = 2 ∧ v = k) ∨ (num s.1 = 3 ∧ v = r)) := by
        have : num s.1 = 0 ∨ num s.1 = 1 ∨ num s.1 = 2 ∨ num s.1 = 3 := by omega
        rcases this with h | h | h | h <;> simp [h]
      obtain ⟨v, hv⟩ := hidx
      have hl : lim d k r (num s.1) = v := by unfold lim; rcases hv with h | h | h | h <;> simp [h.1, h.2]
      have e : stepB s d k r = decide (s.2 < v) := by
        unfold stepB
        rw [hl, decide_eq_decide]
        omega
      rw [e] at hk
      have ee : decide (v ≤ s.2) = !decide (s.2 < v) := by rw [← decide_not, decide_eq_decide]; omega
      rw [← ee] at hk
      clear e ee hl
      rcases hv with ⟨hn, rfl⟩ | ⟨hn, rfl⟩ | ⟨hn, rfl⟩ | ⟨hn, rfl⟩
      all_goals
        rw [hn]
        (repeat (first | refine G.add (by omega) ?_ | refine G.sub (by omega) ?_ | refine G.mul (by omega) ?_ | refine G.neg (by omega) ?_ | refine G.quo (by omega) (by omega) ?_ | refine G.rem (by omega) ?_ | refine G.shr (by omega) ?_ | refine G.conv (by omega) ?_ | refine G.step ?_ | refine G.buildA (by rfl) ?_ | (refine Gs.box ?_; intro _) | (refine Gs.alloc ?_; intro _) | refine Gs.store ?_ | refine G.retc ?_ | refine Gs.dr ?_ | refine G.qadd (by omega) ?_ | refine G.qsub (by omega) ?_ | refine G.qmul (by omega) ?_ | refine G.qneg (by omega) ?_ | refine G.qkp ?_ | refine Gs.qkb ?_ | refine G.withT ?_ | refine Gs.withb ?_ | refine G.ift ?_ | refine G.iff ?_ | refine G.gdtt ?_ | refine G.gdff ?_ | refine G.gdtf ?_ | refine G.gdft ?_ | (refine G.jk ?_; intro _)))
        exact Gs.sel hk
  · have ho' : ¬ (1 ≤ s.1 ∧ s.1 ≤ 10) := fun hh => ho (decide_eq_true hh)
    have ho2 : okOp s.1 = false := decide_eq_false ho'
    have e : stepB s d k r = false := decide_eq_false (by omega)
    rw [e] at hk
    rw [ho2]
    (repeat (first | refine G.add (by omega) ?_ | refine G.sub (by omega) ?_ | refine G.mul (by omega) ?_ | refine G.neg (by omega) ?_ | refine G.quo (by omega) (by omega) ?_ | refine G.rem (by omega) ?_ | refine G.shr (by omega) ?_ | refine G.conv (by omega) ?_ | refine G.step ?_ | refine G.buildA (by rfl) ?_ | (refine Gs.box ?_; intro _) | (refine Gs.alloc ?_; intro _) | refine Gs.store ?_ | refine G.retc ?_ | refine Gs.dr ?_ | refine G.qadd (by omega) ?_ | refine G.qsub (by omega) ?_ | refine G.qmul (by omega) ?_ | refine G.qneg (by omega) ?_ | refine G.qkp ?_ | refine Gs.qkb ?_ | refine G.withT ?_ | refine Gs.withb ?_ | refine G.ift ?_ | refine G.iff ?_ | refine G.gdtt ?_ | refine G.gdff ?_ | refine G.gdtf ?_ | refine G.gdft ?_ | (refine G.jk ?_; intro _)))
    exact Gs.sel hk
theorem any_call {w0 : World} {h0 h : Hp} {L : List Itm} {K : Value → WP} {b : Nat} {v : Value} (l : List Stp) (d k r : Int) [hb : Blk L b [I 1, I d, I k, I r] 59] (hr : RdE h v encP 2 l) (hl : l.length ≤ 1000000)
    (hk : Gs w0 h0 h L (K (.bool (!allB l d k r)))) : Gs w0 h0 h L (Do Tryz.prog (vCall (.func (.func 31) #[] ⟨[]⟩) [v, .func (.func 29) #[] ⟨[ptr b 0]⟩]) K) := by
  refine in31 ?_
  unfold s31
  refine in45 ?_
  unfold s45
  refine Gs.lenE hr (by omega) ?_
  have h0 : allB (l.drop 0) d k r = allB l d k r := rfl
  refine Gs.lp (β := Nat) (fun i => I i) (fun _ => h) (fun _ => L) (fun i => i ≤ l.length ∧ allB (l.drop i) d k r = allB l d k r) (fun i => l.length - i) 0 rfl ⟨Nat.zero_le _, h0⟩ (fun _ h => h) ?_
  rintro i ⟨hi, hR⟩ cont hc
  (repeat (first | refine G.add (by omega) ?_ | refine G.sub (by omega) ?_ | refine G.mul (by omega) ?_ | refine G.neg (by omega) ?_ | refine G.quo (by omega) (by omega) ?_ | refine G.rem (by omega) ?_ | refine G.shr (by omega) ?_ | refine G.conv (by omega) ?_ | refine G.step ?_ | refine G.buildA (by rfl) ?_ | (refine Gs.box ?_; intro _) | (refine Gs.alloc ?_; intro _) | refine Gs.store ?_ | refine G.retc ?_ | refine Gs.dr ?_ | refine G.qadd (by omega) ?_ | refine G.qsub (by omega) ?_ | refine G.qmul (by omega) ?_ | refine G.qneg (by omega) ?_ | refine G.qkp ?_ | refine Gs.qkb ?_ | refine G.withT ?_ | refine Gs.withb ?_ | refine G.ift ?_ | refine G.iff ?_ | refine G.gdtt ?_ | refine G.gdff ?_ | refine G.gdtf ?_ | refine G.gdft ?_ | (refine G.jk ?_; intro _)))
  refine G.ifd ?_ ?_ <;> intro hlt
  · have hlt' : i < l.length := by omega
    have hd : allB (l.drop i) d k r = (stepB l[i] d k r && allB (l.drop (i + 1)) d k r) := by
      unfold allB
      rw [List.drop_eq_getElem_cons hlt', List.all_cons]
    refine Gs.indexE hr hlt' ?_
    intro b1 o1 hp
    refine Gs.loadPN hp rfl ?_
    refine odd_call l[i] d k r ?_
    cases hs : stepB l[i] d k r
    · (repeat (first | refine G.add (by omega) ?_ | refine G.sub (by omega) ?_ | refine G.mul (by omega) ?_ | refine G.neg (by omega) ?_ | refine G.quo (by omega) (by omega) ?_ | refine G.rem (by omega) ?_ | refine G.shr (by omega) ?_ | refine G.conv (by omega) ?_ | refine G.step ?_ | refine G.buildA (by rfl) ?_ | (refine Gs.box ?_; intro _) | (refine Gs.alloc ?_; intro _) | refine Gs.store ?_ | refine G.retc ?_ | refine Gs.dr ?_ | refine G.qadd (by omega) ?_ | refine G.qsub (by omega) ?_ | refine G.qmul (by omega) ?_ | refine G.qneg (by omega) ?_ | refine G.qkp ?_ | refine Gs.qkb ?_ | refine G.withT ?_ | refine Gs.withb ?_ | refine G.ift ?_ | refine G.iff ?_ | refine G.gdtt ?_ | refine G.gdff ?_ | refine G.gdtf ?_ | refine G.gdft ?_ | (refine G.jk ?_; intro _)))
      rw [← hR, hd, hs] at hk
      have e : decide (0 ≤ (i : Int)) = true := decide_eq_true (by omega)
      rw [e]
      exact hk
    · (repeat (first | refine G.add (by omega) ?_ | refine G.sub (by omega) ?_ | refine G.mul (by omega) ?_ | refine G.neg (by omega) ?_ | refine G.quo (by omega) (by omega) ?_ | refine G.rem (by omega) ?_ | refine G.shr (by omega) ?_ | refine G.conv (by omega) ?_ | refine G.step ?_ | refine G.buildA (by rfl) ?_ | (refine Gs.box ?_; intro _) | (refine Gs.alloc ?_; intro _) | refine Gs.store ?_ | refine G.retc ?_ | refine Gs.dr ?_ | refine G.qadd (by omega) ?_ | refine G.qsub (by omega) ?_ | refine G.qmul (by omega) ?_ | refine G.qneg (by omega) ?_ | refine G.qkp ?_ | refine Gs.qkb ?_ | refine G.withT ?_ | refine Gs.withb ?_ | refine G.ift ?_ | refine G.iff ?_ | refine G.gdtt ?_ | refine G.gdff ?_ | refine G.gdtf ?_ | refine G.gdft ?_ | (refine G.jk ?_; intro _)))
      exact Gs.go (hc (i + 1) ⟨by omega, by rw [← hR, hd, hs]; rfl⟩ (by omega)) rfl
  · (repeat (first | refine G.add (by omega) ?_ | refine G.sub (by omega) ?_ | refine G.mul (by omega) ?_ | refine G.neg (by omega) ?_ | refine G.quo (by omega) (by omega) ?_ | refine G.rem (by omega) ?_ | refine G.shr (by omega) ?_ | refine G.conv (by omega) ?_ | refine G.step ?_ | refine G.buildA (by rfl) ?_ | (refine Gs.box ?_; intro _) | (refine Gs.alloc ?_; intro _) | refine Gs.store ?_ | refine G.retc ?_ | refine Gs.dr ?_ | refine G.qadd (by omega) ?_ | refine G.qsub (by omega) ?_ | refine G.qmul (by omega) ?_ | refine G.qneg (by omega) ?_ | refine G.qkp ?_ | refine Gs.qkb ?_ | refine G.withT ?_ | refine Gs.withb ?_ | refine G.ift ?_ | refine G.iff ?_ | refine G.gdtt ?_ | refine G.gdff ?_ | refine G.gdtf ?_ | refine G.gdft ?_ | (refine G.jk ?_; intro _)))
    rw [← hR, List.drop_eq_nil_of_le (by omega)] at hk
    exact hk
theorem cnt_take (l : List Stp) (op : Int) (i : Nat) (hi : i < l.length) : cnt (l.take (i + 1)) op = cnt (l.take i) op + if l[i].1 = op then 1 else 0 := by
  rw [List.take_succ_eq_append_getElem hi, cnt_snoc]
theorem count_ok (l : List Stp) (v : Value) (op : Int) (h : Hp) (hr : RdE h v encP 2 l) (hl : l.length ≤ 1000000) : Ct Tryz.prog 32 [v, I op] h (fun _ r => r = I (cnt l op)) := by
  refine ct32 ?_
  intro w0
  unfold s32
  refine Gs.lenE hr (by omega) ?_
  refine Gs.lp (β := Nat) (fun i => (I (cnt (l.take i) op), I i)) (fun _ => h) (fun _ => []) (fun i => i ≤ l.length) (fun i => l.length - i) 0 rfl (Nat.zero_le _) (fun _ h => h) ?_
  rintro i hi cont hc
  have hcl := cnt_le (l.take i) op
  rw [List.length_take] at hcl
  (repeat (first | refine G.add (by omega) ?_ | refine G.sub (by omega) ?_ | refine G.mul (by omega) ?_ | refine G.neg (by omega) ?_ | refine G.quo (by omega) (by omega) ?_ | refine G.rem (by omega) ?_ | refine G.shr (by omega) ?_ | refine G.conv (by omega) ?_ | refine G.step ?_ | refine G.buildA (by rfl) ?_ | (refine Gs.box ?_; intro _) | (refine Gs.alloc ?_; intro _) | refine Gs.store ?_ | refine G.retc ?_ | refine Gs.dr ?_ | refine G.qadd (by omega) ?_ | refine G.qsub (by omega) ?_ | refine G.qmul (by omega) ?_ | refine G.qneg (by omega) ?_ | refine G.qkp ?_ | refine Gs.qkb ?_ | refine G.withT ?_ | refine Gs.withb ?_ | refine G.ift ?_ | refine G.iff ?_ | refine G.gdtt ?_ | refine G.gdff ?_ | refine G.gdtf ?_ | refine G.gdft ?_ | (refine G.jk ?_; intro _)))
  refine G.ifd ?_ ?_ <;> intro hlt
  · have hlt' : i < l.length := by omega
    have hcn := cnt_take l op i hlt'
    refine G.jn ?_
    refine Gs.indexE hr hlt' ?_
    intro b1 o1 hp
    refine Gs.loadPN hp rfl ?_
    (repeat (first | refine G.add (by omega) ?_ | refine G.sub (by omega) ?_ | refine G.mul (by omega) ?_ | refine G.neg (by omega) ?_ | refine G.quo (by omega) (by omega) ?_ | refine G.rem (by omega) ?_ | refine G.shr (by omega) ?_ | refine G.conv (by omega) ?_ | refine G.step ?_ | refine G.buildA (by rfl) ?_ | (refine Gs.box ?_; intro _) | (refine Gs.alloc ?_; intro _) | refine Gs.store ?_ | refine G.retc ?_ | refine Gs.dr ?_ | refine G.qadd (by omega) ?_ | refine G.qsub (by omega) ?_ | refine G.qmul (by omega) ?_ | refine G.qneg (by omega) ?_ | refine G.qkp ?_ | refine Gs.qkb ?_ | refine G.withT ?_ | refine Gs.withb ?_ | refine G.ift ?_ | refine G.iff ?_ | refine G.gdtt ?_ | refine G.gdff ?_ | refine G.gdtf ?_ | refine G.gdft ?_ | (refine G.jk ?_; intro _)))
    refine G.ifd ?_ ?_ <;> intro he
    · (repeat (first | refine G.add (by omega) ?_ | refine G.sub (by omega) ?_ | refine G.mul (by omega) ?_ | refine G.neg (by omega) ?_ | refine G.quo (by omega) (by omega) ?_ | refine G.rem (by omega) ?_ | refine G.shr (by omega) ?_ | refine G.conv (by omega) ?_ | refine G.step ?_ | refine G.buildA (by rfl) ?_ | (refine Gs.box ?_; intro _) | (refine Gs.alloc ?_; intro _) | refine Gs.store ?_ | refine G.retc ?_ | refine Gs.dr ?_ | refine G.qadd (by omega) ?_ | refine G.qsub (by omega) ?_ | refine G.qmul (by omega) ?_ | refine G.qneg (by omega) ?_ | refine G.qkp ?_ | refine Gs.qkb ?_ | refine G.withT ?_ | refine Gs.withb ?_ | refine G.ift ?_ | refine G.iff ?_ | refine G.gdtt ?_ | refine G.gdff ?_ | refine G.gdtf ?_ | refine G.gdft ?_ | (refine G.jk ?_; intro _)))
      refine Gs.goS (hc (i + 1) (by omega) (by omega)) ?_
      rw [hcn, if_pos he]; rfl
    · (repeat (first | refine G.add (by omega) ?_ | refine G.sub (by omega) ?_ | refine G.mul (by omega) ?_ | refine G.neg (by omega) ?_ | refine G.quo (by omega) (by omega) ?_ | refine G.rem (by omega) ?_ | refine G.shr (by omega) ?_ | refine G.conv (by omega) ?_ | refine G.step ?_ | refine G.buildA (by rfl) ?_ | (refine Gs.box ?_; intro _) | (refine Gs.alloc ?_; intro _) | refine Gs.store ?_ | refine G.retc ?_ | refine Gs.dr ?_ | refine G.qadd (by omega) ?_ | refine G.qsub (by omega) ?_ | refine G.qmul (by omega) ?_ | refine G.qneg (by omega) ?_ | refine G.qkp ?_ | refine Gs.qkb ?_ | refine G.withT ?_ | refine Gs.withb ?_ | refine G.ift ?_ | refine G.iff ?_ | refine G.gdtt ?_ | refine G.gdff ?_ | refine G.gdtf ?_ | refine G.gdft ?_ | (refine G.jk ?_; intro _)))
      refine Gs.goS (hc (i + 1) (by omega) (by omega)) ?_
      rw [hcn, if_neg he]; rfl
  · refine Gs.ret ?_
    rw [List.take_of_length_le (by omega)]
theorem rcount_ok (l : List Stp) (v : Value) (op : Int) (h : Hp) (hr : RdE h v encP 2 l) (hl : l.length ≤ 1000000) : Ct Tryz.prog 34 [v, I op] h (fun _ r => r = I (cnt l op)) := by
  refine ct34 ?_
  intro w0
  unfold s34
  refine Gs.lp (β := Nat) (fun i => (I (cnt (l.take i) op), I i)) (fun _ => h) (fun _ => []) (fun i => i ≤ l.length) (fun i => l.length - i) 0 rfl (Nat.zero_le _) (fun _ h => h) ?_
  rintro i hi cont hc
  have hcl := cnt_le (l.take i) op
  rw [List.length_take] at hcl
  (repeat (first | refine G.add (by omega) ?_ | refine G.sub (by omega) ?_ | refine G.mul (by omega) ?_ | refine G.neg (by omega) ?_ | refine G.quo (by omega) (by omega) ?_ | refine G.rem (by omega) ?_ | refine G.shr (by omega) ?_ | refine G.conv (by omega) ?_ | refine G.step ?_ | refine G.buildA (by rfl) ?_ | (refine Gs.box ?_; intro _) | (refine Gs.alloc ?_; intro _) | refine Gs.store ?_ | refine G.retc ?_ | refine Gs.dr ?_ | refine G.qadd (by omega) ?_ | refine G.qsub (by omega) ?_ | refine G.qmul (by omega) ?_ | refine G.qneg (by omega) ?_ | refine G.qkp ?_ | refine Gs.qkb ?_ | refine G.withT ?_ | refine Gs.withb ?_ | refine G.ift ?_ | refine G.iff ?_ | refine G.gdtt ?_ | refine G.gdff ?_ | refine G.gdtf ?_ | refine G.gdft ?_ | (refine G.jk ?_; intro _)))
  refine Gs.lenE hr (by omega) ?_
  (repeat (first | refine G.add (by omega) ?_ | refine G.sub (by omega) ?_ | refine G.mul (by omega) ?_ | refine G.neg (by omega) ?_ | refine G.quo (by omega) (by omega) ?_ | refine G.rem (by omega) ?_ | refine G.shr (by omega) ?_ | refine G.conv (by omega) ?_ | refine G.step ?_ | refine G.buildA (by rfl) ?_ | (refine Gs.box ?_; intro _) | (refine Gs.alloc ?_; intro _) | refine Gs.store ?_ | refine G.retc ?_ | refine Gs.dr ?_ | refine G.qadd (by omega) ?_ | refine G.qsub (by omega) ?_ | refine G.qmul (by omega) ?_ | refine G.qneg (by omega) ?_ | refine G.qkp ?_ | refine Gs.qkb ?_ | refine G.withT ?_ | refine Gs.withb ?_ | refine G.ift ?_ | refine G.iff ?_ | refine G.gdtt ?_ | refine G.gdff ?_ | refine G.gdtf ?_ | refine G.gdft ?_ | (refine G.jk ?_; intro _)))
  refine G.ifd ?_ ?_ <;> intro hlt
  · have hlt' : i < l.length := by omega
    have hcn := cnt_take l op i hlt'
    refine G.jn ?_
    refine Gs.indexE hr hlt' ?_
    intro b1 o1 hp
    (repeat (first | refine G.add (by omega) ?_ | refine G.sub (by omega) ?_ | refine G.mul (by omega) ?_ | refine G.neg (by omega) ?_ | refine G.quo (by omega) (by omega) ?_ | refine G.rem (by omega) ?_ | refine G.shr (by omega) ?_ | refine G.conv (by omega) ?_ | refine G.step ?_ | refine G.buildA (by rfl) ?_ | (refine Gs.box ?_; intro _) | (refine Gs.alloc ?_; intro _) | refine Gs.store ?_ | refine G.retc ?_ | refine Gs.dr ?_ | refine G.qadd (by omega) ?_ | refine G.qsub (by omega) ?_ | refine G.qmul (by omega) ?_ | refine G.qneg (by omega) ?_ | refine G.qkp ?_ | refine Gs.qkb ?_ | refine G.withT ?_ | refine Gs.withb ?_ | refine G.ift ?_ | refine G.iff ?_ | refine G.gdtt ?_ | refine G.gdff ?_ | refine G.gdtf ?_ | refine G.gdft ?_ | (refine G.jk ?_; intro _)))
    refine Gs.loadP1 hp ?_
    (repeat (first | refine G.add (by omega) ?_ | refine G.sub (by omega) ?_ | refine G.mul (by omega) ?_ | refine G.neg (by omega) ?_ | refine G.quo (by omega) (by omega) ?_ | refine G.rem (by omega) ?_ | refine G.shr (by omega) ?_ | refine G.conv (by omega) ?_ | refine G.step ?_ | refine G.buildA (by rfl) ?_ | (refine Gs.box ?_; intro _) | (refine Gs.alloc ?_; intro _) | refine Gs.store ?_ | refine G.retc ?_ | refine Gs.dr ?_ | refine G.qadd (by omega) ?_ | refine G.qsub (by omega) ?_ | refine G.qmul (by omega) ?_ | refine G.qneg (by omega) ?_ | refine G.qkp ?_ | refine Gs.qkb ?_ | refine G.withT ?_ | refine Gs.withb ?_ | refine G.ift ?_ | refine G.iff ?_ | refine G.gdtt ?_ | refine G.gdff ?_ | refine G.gdtf ?_ | refine G.gdft ?_ | (refine G.jk ?_; intro _)))
    refine G.ifd ?_ ?_ <;> intro he
    · (repeat (first | refine G.add (by omega) ?_ | refine G.sub (by omega) ?_ | refine G.mul (by omega) ?_ | refine G.neg (by omega) ?_ | refine G.quo (by omega) (by omega) ?_ | refine G.rem (by omega) ?_ | refine G.shr (by omega) ?_ | refine G.conv (by omega) ?_ | refine G.step ?_ | refine G.buildA (by rfl) ?_ | (refine Gs.box ?_; intro _) | (refine Gs.alloc ?_; intro _) | refine Gs.store ?_ | refine G.retc ?_ | refine Gs.dr ?_ | refine G.qadd (by omega) ?_ | refine G.qsub (by omega) ?_ | refine G.qmul (by omega) ?_ | refine G.qneg (by omega) ?_ | refine G.qkp ?_ | refine Gs.qkb ?_ | refine G.withT ?_ | refine Gs.withb ?_ | refine G.ift ?_ | refine G.iff ?_ | refine G.gdtt ?_ | refine G.gdff ?_ | refine G.gdtf ?_ | refine G.gdft ?_ | (refine G.jk ?_; intro _)))
      refine Gs.goS (hc (i + 1) (by omega) (by omega)) ?_
      rw [hcn, if_pos he]; rfl
    · (repeat (first | refine G.add (by omega) ?_ | refine G.sub (by omega) ?_ | refine G.mul (by omega) ?_ | refine G.neg (by omega) ?_ | refine G.quo (by omega) (by omega) ?_ | refine G.rem (by omega) ?_ | refine G.shr (by omega) ?_ | refine G.conv (by omega) ?_ | refine G.step ?_ | refine G.buildA (by rfl) ?_ | (refine Gs.box ?_; intro _) | (refine Gs.alloc ?_; intro _) | refine Gs.store ?_ | refine G.retc ?_ | refine Gs.dr ?_ | refine G.qadd (by omega) ?_ | refine G.qsub (by omega) ?_ | refine G.qmul (by omega) ?_ | refine G.qneg (by omega) ?_ | refine G.qkp ?_ | refine Gs.qkb ?_ | refine G.withT ?_ | refine Gs.withb ?_ | refine G.ift ?_ | refine G.iff ?_ | refine G.gdtt ?_ | refine G.gdff ?_ | refine G.gdtf ?_ | refine G.gdft ?_ | (refine G.jk ?_; intro _)))
      refine Gs.goS (hc (i + 1) (by omega) (by omega)) ?_
      rw [hcn, if_neg he]; rfl
  · refine Gs.ret ?_
    rw [List.take_of_length_le (by omega)]
theorem takes_ok (l : List Stp) (v : Value) (h : Hp) (hr : RdE h v encP 2 l) (hl : l.length ≤ 1000000) : Ct Tryz.prog 15 [v] h (fun _ r => r = .bool (decide (0 < cnt l 6))) := by
  refine ct15 ?_
  intro w0
  unfold s15
  refine Gs.callv0 (count_ok l v 6 h hr hl) ?_
  (repeat (first | refine G.add (by omega) ?_ | refine G.sub (by omega) ?_ | refine G.mul (by omega) ?_ | refine G.neg (by omega) ?_ | refine G.quo (by omega) (by omega) ?_ | refine G.rem (by omega) ?_ | refine G.shr (by omega) ?_ | refine G.conv (by omega) ?_ | refine G.step ?_ | refine G.buildA (by rfl) ?_ | (refine Gs.box ?_; intro _) | (refine Gs.alloc ?_; intro _) | refine Gs.store ?_ | refine G.retc ?_ | refine Gs.dr ?_ | refine G.qadd (by omega) ?_ | refine G.qsub (by omega) ?_ | refine G.qmul (by omega) ?_ | refine G.qneg (by omega) ?_ | refine G.qkp ?_ | refine Gs.qkb ?_ | refine G.withT ?_ | refine Gs.withb ?_ | refine G.ift ?_ | refine G.iff ?_ | refine G.gdtt ?_ | refine G.gdff ?_ | refine G.gdtf ?_ | refine G.gdft ?_ | (refine G.jk ?_; intro _)))
  exact Gs.ret (by congr 1; rw [decide_eq_decide]; omega)
theorem rtakes_ok (l : List Stp) (v : Value) (h : Hp) (hr : RdE h v encP 2 l) (hl : l.length ≤ 1000000) : Ct Tryz.prog 16 [v] h (fun _ r => r = .bool (decide (0 < cnt l 6))) := by
  refine ct16 ?_
  intro w0
  unfold s16
  refine Gs.callv0 (rcount_ok l v 6 h hr hl) ?_
  (repeat (first | refine G.add (by omega) ?_ | refine G.sub (by omega) ?_ | refine G.mul (by omega) ?_ | refine G.neg (by omega) ?_ | refine G.quo (by omega) (by omega) ?_ | refine G.rem (by omega) ?_ | refine G.shr (by omega) ?_ | refine G.conv (by omega) ?_ | refine G.step ?_ | refine G.buildA (by rfl) ?_ | (refine Gs.box ?_; intro _) | (refine Gs.alloc ?_; intro _) | refine Gs.store ?_ | refine G.retc ?_ | refine Gs.dr ?_ | refine G.qadd (by omega) ?_ | refine G.qsub (by omega) ?_ | refine G.qmul (by omega) ?_ | refine G.qneg (by omega) ?_ | refine G.qkp ?_ | refine Gs.qkb ?_ | refine G.withT ?_ | refine Gs.withb ?_ | refine G.ift ?_ | refine G.iff ?_ | refine G.gdtt ?_ | refine G.gdff ?_ | refine G.gdtf ?_ | refine G.gdft ?_ | (refine G.jk ?_; intro _)))
  exact Gs.ret (by congr 1; rw [decide_eq_decide]; omega)
theorem valid_ok (l : List Stp) (v : Value) (d k r : Int) (h : Hp) (hr : RdE h v encP 2 l) (hl : l.length ≤ 1000000) : Ct Tryz.prog 13 [v, I d, I k, I r] h (fun _ x => x = .bool (validB l d k r)) := by
  refine ct13 ?_
  intro w0
  unfold s13
  (repeat (first | refine G.add (by omega) ?_ | refine G.sub (by omega) ?_ | refine G.mul (by omega) ?_ | refine G.neg (by omega) ?_ | refine G.quo (by omega) (by omega) ?_ | refine G.rem (by omega) ?_ | refine G.shr (by omega) ?_ | refine G.conv (by omega) ?_ | refine G.step ?_ | refine G.buildA (by rfl) ?_ | (refine Gs.box ?_; intro _) | (refine Gs.alloc ?_; intro _) | refine Gs.store ?_ | refine G.retc ?_ | refine Gs.dr ?_ | refine G.qadd (by omega) ?_ | refine G.qsub (by omega) ?_ | refine G.qmul (by omega) ?_ | refine G.qneg (by omega) ?_ | refine G.qkp ?_ | refine Gs.qkb ?_ | refine G.withT ?_ | refine Gs.withb ?_ | refine G.ift ?_ | refine G.iff ?_ | refine G.gdtt ?_ | refine G.gdff ?_ | refine G.gdtf ?_ | refine G.gdft ?_ | (refine G.jk ?_; intro _)))
  refine Gs.lenE hr (by omega) ?_
  (repeat (first | refine G.add (by omega) ?_ | refine G.sub (by omega) ?_ | refine G.mul (by omega) ?_ | refine G.neg (by omega) ?_ | refine G.quo (by omega) (by omega) ?_ | refine G.rem (by omega) ?_ | refine G.shr (by omega) ?_ | refine G.conv (by omega) ?_ | refine G.step ?_ | refine G.buildA (by rfl) ?_ | (refine Gs.box ?_; intro _) | (refine Gs.alloc ?_; intro _) | refine Gs.store ?_ | refine G.retc ?_ | refine Gs.dr ?_ | refine G.qadd (by omega) ?_ | refine G.qsub (by omega) ?_ | refine G.qmul (by omega) ?_ | refine G.qneg (by omega) ?_ | refine G.qkp ?_ | refine Gs.qkb ?_ | refine G.withT ?_ | refine Gs.withb ?_ | refine G.ift ?_ | refine G.iff ?_ | refine G.gdtt ?_ | refine G.gdff ?_ | refine G.gdtf ?_ | refine G.gdft ?_ | (refine G.jk ?_; intro _)))
  have no : ¬ (0 < l.length ∧ l.length ≤ 8 ∧ allB l d k r = true ∧ cnt l 6 ≤ 2 ∧ cnt l 7 ≤ 1 ∧ cnt l 8 ≤ 1) → validB l d k r = false := fun hh => decide_eq_false hh
  refine G.gddt ?_ ?_ <;> intro h1
  · refine Gs.lenE hr (by omega) ?_
    (repeat (first | refine G.add (by omega) ?_ | refine G.sub (by omega) ?_ | refine G.mul (by omega) ?_ | refine G.neg (by omega) ?_ | refine G.quo (by omega) (by omega) ?_ | refine G.rem (by omega) ?_ | refine G.shr (by omega) ?_ | refine G.conv (by omega) ?_ | refine G.step ?_ | refine G.buildA (by rfl) ?_ | (refine Gs.box ?_; intro _) | (refine Gs.alloc ?_; intro _) | refine Gs.store ?_ | refine G.retc ?_ | refine Gs.dr ?_ | refine G.qadd (by omega) ?_ | refine G.qsub (by omega) ?_ | refine G.qmul (by omega) ?_ | refine G.qneg (by omega) ?_ | refine G.qkp ?_ | refine Gs.qkb ?_ | refine G.withT ?_ | refine Gs.withb ?_ | refine G.ift ?_ | refine G.iff ?_ | refine G.gdtt ?_ | refine G.gdff ?_ | refine G.gdtf ?_ | refine G.gdft ?_ | (refine G.jk ?_; intro _)))
    refine G.gddt ?_ ?_ <;> intro h2
    · refine any_call l d k r hr hl ?_
      cases ha : allB l d k r
      · (repeat (first | refine G.add (by omega) ?_ | refine G.sub (by omega) ?_ | refine G.mul (by omega) ?_ | refine G.neg (by omega) ?_ | refine G.quo (by omega) (by omega) ?_ | refine G.rem (by omega) ?_ | refine G.shr (by omega) ?_ | refine G.conv (by omega) ?_ | refine G.step ?_ | refine G.buildA (by rfl) ?_ | (refine Gs.box ?_; intro _) | (refine Gs.alloc ?_; intro _) | refine Gs.store ?_ | refine G.retc ?_ | refine Gs.dr ?_ | refine G.qadd (by omega) ?_ | refine G.qsub (by omega) ?_ | refine G.qmul (by omega) ?_ | refine G.qneg (by omega) ?_ | refine G.qkp ?_ | refine Gs.qkb ?_ | refine G.withT ?_ | refine Gs.withb ?_ | refine G.ift ?_ | refine G.iff ?_ | refine G.gdtt ?_ | refine G.gdff ?_ | refine G.gdtf ?_ | refine G.gdft ?_ | (refine G.jk ?_; intro _)))
        exact Gs.ret (by rw [no (by rw [ha]; simp)])
      · (repeat (first | refine G.add (by omega) ?_ | refine G.sub (by omega) ?_ | refine G.mul (by omega) ?_ | refine G.neg (by omega) ?_ | refine G.quo (by omega) (by omega) ?_ | refine G.rem (by omega) ?_ | refine G.shr (by omega) ?_ | refine G.conv (by omega) ?_ | refine G.step ?_ | refine G.buildA (by rfl) ?_ | (refine Gs.box ?_; intro _) | (refine Gs.alloc ?_; intro _) | refine Gs.store ?_ | refine G.retc ?_ | refine Gs.dr ?_ | refine G.qadd (by omega) ?_ | refine G.qsub (by omega) ?_ | refine G.qmul (by omega) ?_ | refine G.qneg (by omega) ?_ | refine G.qkp ?_ | refine Gs.qkb ?_ | refine G.withT ?_ | refine Gs.withb ?_ | refine G.ift ?_ | refine G.iff ?_ | refine G.gdtt ?_ | refine G.gdff ?_ | refine G.gdtf ?_ | refine G.gdft ?_ | (refine G.jk ?_; intro _)))
        refine Gs.callv0 (count_ok l v 6 h hr hl) ?_
        (repeat (first | refine G.add (by omega) ?_ | refine G.sub (by omega) ?_ | refine G.mul (by omega) ?_ | refine G.neg (by omega) ?_ | refine G.quo (by omega) (by omega) ?_ | refine G.rem (by omega) ?_ | refine G.shr (by omega) ?_ | refine G.conv (by omega) ?_ | refine G.step ?_ | refine G.buildA (by rfl) ?_ | (refine Gs.box ?_; intro _) | (refine Gs.alloc ?_; intro _) | refine Gs.store ?_ | refine G.retc ?_ | refine Gs.dr ?_ | refine G.qadd (by omega) ?_ | refine G.qsub (by omega) ?_ | refine G.qmul (by omega) ?_ | refine G.qneg (by omega) ?_ | refine G.qkp ?_ | refine Gs.qkb ?_ | refine G.withT ?_ | refine Gs.withb ?_ | refine G.ift ?_ | refine G.iff ?_ | refine G.gdtt ?_ | refine G.gdff ?_ | refine G.gdtf ?_ | refine G.gdft ?_ | (refine G.jk ?_; intro _)))
        refine G.gddt ?_ ?_ <;> intro h3
        · refine Gs.callv0 (count_ok l v 7 h hr hl) ?_
          (repeat (first | refine G.add (by omega) ?_ | refine G.sub (by omega) ?_ | refine G.mul (by omega) ?_ | refine G.neg (by omega) ?_ | refine G.quo (by omega) (by omega) ?_ | refine G.rem (by omega) ?_ | refine G.shr (by omega) ?_ | refine G.conv (by omega) ?_ | refine G.step ?_ | refine G.buildA (by rfl) ?_ | (refine Gs.box ?_; intro _) | (refine Gs.alloc ?_; intro _) | refine Gs.store ?_ | refine G.retc ?_ | refine Gs.dr ?_ | refine G.qadd (by omega) ?_ | refine G.qsub (by omega) ?_ | refine G.qmul (by omega) ?_ | refine G.qneg (by omega) ?_ | refine G.qkp ?_ | refine Gs.qkb ?_ | refine G.withT ?_ | refine Gs.withb ?_ | refine G.ift ?_ | refine G.iff ?_ | refine G.gdtt ?_ | refine G.gdff ?_ | refine G.gdtf ?_ | refine G.gdft ?_ | (refine G.jk ?_; intro _)))
          refine G.gddt ?_ ?_ <;> intro h4
          · refine Gs.callv0 (count_ok l v 8 h hr hl) ?_
            (repeat (first | refine G.add (by omega) ?_ | refine G.sub (by omega) ?_ | refine G.mul (by omega) ?_ | refine G.neg (by omega) ?_ | refine G.quo (by omega) (by omega) ?_ | refine G.rem (by omega) ?_ | refine G.shr (by omega) ?_ | refine G.conv (by omega) ?_ | refine G.step ?_ | refine G.buildA (by rfl) ?_ | (refine Gs.box ?_; intro _) | (refine Gs.alloc ?_; intro _) | refine Gs.store ?_ | refine G.retc ?_ | refine Gs.dr ?_ | refine G.qadd (by omega) ?_ | refine G.qsub (by omega) ?_ | refine G.qmul (by omega) ?_ | refine G.qneg (by omega) ?_ | refine G.qkp ?_ | refine Gs.qkb ?_ | refine G.withT ?_ | refine Gs.withb ?_ | refine G.ift ?_ | refine G.iff ?_ | refine G.gdtt ?_ | refine G.gdff ?_ | refine G.gdtf ?_ | refine G.gdft ?_ | (refine G.jk ?_; intro _)))
            refine Gs.ret (congrArg Value.bool ?_)
            unfold validB
            rw [decide_eq_decide, ha]
            exact ⟨fun h5 => ⟨by omega, by omega, rfl, by omega, by omega, by omega⟩, fun ⟨_, _, _, _, _, h5⟩ => by omega⟩
          · exact Gs.ret (by rw [no (by omega)])
        · exact Gs.ret (by rw [no (by omega)])
    · exact Gs.ret (by rw [no (by omega)])
  · exact Gs.ret (by rw [no (by omega)])
end Go.Proofs.YtlljhipmnkdpeaaGreatDoor
end

section
set_option linter.unusedVariables false
set_option maxHeartbeats 4000000
namespace Go.Proofs.YtlljhipmnkdpeaaGreatDoor
open Go Go.Sk Go.Pr
theorem stepB_1 (s : Stp) (d k r : Int) (h : s.1 = 1 ∨ s.1 = 2 ∨ s.1 = 7) : stepB s d k r = decide (0 ≤ s.2 ∧ s.2 < d) := by
  have hn : num s.1 = 1 := by unfold num; rw [if_pos h]
  unfold stepB lim
  rw [hn, decide_eq_decide]
  simp
  omega
theorem stepB_0 (s : Stp) (d k r : Int) (h : s.1 = 3 ∨ s.1 = 4 ∨ s.1 = 5 ∨ s.1 = 6) : stepB s d k r = decide (s.2 = 0) := by
  have hn : num s.1 = 0 := by unfold num; rw [if_neg (by omega), if_neg (by omega), if_neg (by omega)]
  unfold stepB lim
  rw [hn, decide_eq_decide]
  simp
  omega
theorem stepB_2 (s : Stp) (d k r : Int) (h : s.1 = 8) : stepB s d k r = decide (0 ≤ s.2 ∧ s.2 < k) := by
  have hn : num s.1 = 2 := by unfold num; rw [if_neg (by omega), if_pos h]
  unfold stepB lim
  rw [hn, decide_eq_decide]
  simp
  omega
theorem stepB_3 (s : Stp) (d k r : Int) (h : s.1 = 9 ∨ s.1 = 10) : stepB s d k r = decide (0 ≤ s.2 ∧ s.2 < r) := by
  have hn : num s.1 = 3 := by unfold num; rw [if_neg (by omega), if_neg (by omega), if_pos h]
  unfold stepB lim
  rw [hn, decide_eq_decide]
  simp
  omega
theorem stepB_no (s : Stp) (d k r : Int) (h : ¬ (1 ≤ s.1 ∧ s.1 ≤ 10)) : stepB s d k r = false := decide_eq_false (by omega)
theorem rstep_ok (s : Stp) (d k r : Int) (h : Hp) : Ct Tryz.prog 33 [Sv s, I d, I k, I r] h (fun _ v => v = .bool (stepB s d k r)) := by
  refine ct33 ?_
  intro w0
  unfold s33
  (repeat (first | refine G.add (by omega) ?_ | refine G.sub (by omega) ?_ | refine G.mul (by omega) ?_ | refine G.neg (by omega) ?_ | refine G.quo (by omega) (by omega) ?_ | refine G.rem (by omega) ?_ | refine G.shr (by omega) ?_ | refine G.conv (by omega) ?_ | refine G.step ?_ | refine G.buildA (by rfl) ?_ | (refine Gs.box ?_; intro _) | (refine Gs.alloc ?_; intro _) | refine Gs.store ?_ | refine G.retc ?_ | refine Gs.dr ?_ | refine G.qadd (by omega) ?_ | refine G.qsub (by omega) ?_ | refine G.qmul (by omega) ?_ | refine G.qneg (by omega) ?_ | refine G.qkp ?_ | refine Gs.qkb ?_ | refine G.withT ?_ | refine Gs.withb ?_ | refine G.ift ?_ | refine G.iff ?_ | refine G.gdtt ?_ | refine G.gdff ?_ | refine G.gdtf ?_ | refine G.gdft ?_ | (refine G.jk ?_; intro _)))
  refine G.jnP (fun a => a = .bool (decide (s.1 = 1 ∨ s.1 = 2 ∨ s.1 = 7))) ?_ ?_
  · rintro a rfl
    (repeat (first | refine G.add (by omega) ?_ | refine G.sub (by omega) ?_ | refine G.mul (by omega) ?_ | refine G.neg (by omega) ?_ | refine G.quo (by omega) (by omega) ?_ | refine G.rem (by omega) ?_ | refine G.shr (by omega) ?_ | refine G.conv (by omega) ?_ | refine G.step ?_ | refine G.buildA (by rfl) ?_ | (refine Gs.box ?_; intro _) | (refine Gs.alloc ?_; intro _) | refine Gs.store ?_ | refine G.retc ?_ | refine Gs.dr ?_ | refine G.qadd (by omega) ?_ | refine G.qsub (by omega) ?_ | refine G.qmul (by omega) ?_ | refine G.qneg (by omega) ?_ | refine G.qkp ?_ | refine Gs.qkb ?_ | refine G.withT ?_ | refine Gs.withb ?_ | refine G.ift ?_ | refine G.iff ?_ | refine G.gdtt ?_ | refine G.gdff ?_ | refine G.gdtf ?_ | refine G.gdft ?_ | (refine G.jk ?_; intro _)))
    refine G.ifd ?_ ?_ <;> intro h1
    · (repeat (first | refine G.add (by omega) ?_ | refine G.sub (by omega) ?_ | refine G.mul (by omega) ?_ | refine G.neg (by omega) ?_ | refine G.quo (by omega) (by omega) ?_ | refine G.rem (by omega) ?_ | refine G.shr (by omega) ?_ | refine G.conv (by omega) ?_ | refine G.step ?_ | refine G.buildA (by rfl) ?_ | (refine Gs.box ?_; intro _) | (refine Gs.alloc ?_; intro _) | refine Gs.store ?_ | refine G.retc ?_ | refine Gs.dr ?_ | refine G.qadd (by omega) ?_ | refine G.qsub (by omega) ?_ | refine G.qmul (by omega) ?_ | refine G.qneg (by omega) ?_ | refine G.qkp ?_ | refine Gs.qkb ?_ | refine G.withT ?_ | refine Gs.withb ?_ | refine G.ift ?_ | refine G.iff ?_ | refine G.gdtt ?_ | refine G.gdff ?_ | refine G.gdtf ?_ | refine G.gdft ?_ | (refine G.jk ?_; intro _)))
      refine Gs.callv0 (in_ok s.2 d h) ?_
      exact Gs.ret (by rw [stepB_1 s d k r h1])
    refine G.jnP (fun a => a = .bool (decide (s.1 = 3 ∨ s.1 = 4 ∨ s.1 = 5 ∨ s.1 = 6))) ?_ ?_
    · rintro a rfl
      (repeat (first | refine G.add (by omega) ?_ | refine G.sub (by omega) ?_ | refine G.mul (by omega) ?_ | refine G.neg (by omega) ?_ | refine G.quo (by omega) (by omega) ?_ | refine G.rem (by omega) ?_ | refine G.shr (by omega) ?_ | refine G.conv (by omega) ?_ | refine G.step ?_ | refine G.buildA (by rfl) ?_ | (refine Gs.box ?_; intro _) | (refine Gs.alloc ?_; intro _) | refine Gs.store ?_ | refine G.retc ?_ | refine Gs.dr ?_ | refine G.qadd (by omega) ?_ | refine G.qsub (by omega) ?_ | refine G.qmul (by omega) ?_ | refine G.qneg (by omega) ?_ | refine G.qkp ?_ | refine Gs.qkb ?_ | refine G.withT ?_ | refine Gs.withb ?_ | refine G.ift ?_ | refine G.iff ?_ | refine G.gdtt ?_ | refine G.gdff ?_ | refine G.gdtf ?_ | refine G.gdft ?_ | (refine G.jk ?_; intro _)))
      refine G.ifd ?_ ?_ <;> intro h2
      · (repeat (first | refine G.add (by omega) ?_ | refine G.sub (by omega) ?_ | refine G.mul (by omega) ?_ | refine G.neg (by omega) ?_ | refine G.quo (by omega) (by omega) ?_ | refine G.rem (by omega) ?_ | refine G.shr (by omega) ?_ | refine G.conv (by omega) ?_ | refine G.step ?_ | refine G.buildA (by rfl) ?_ | (refine Gs.box ?_; intro _) | (refine Gs.alloc ?_; intro _) | refine Gs.store ?_ | refine G.retc ?_ | refine Gs.dr ?_ | refine G.qadd (by omega) ?_ | refine G.qsub (by omega) ?_ | refine G.qmul (by omega) ?_ | refine G.qneg (by omega) ?_ | refine G.qkp ?_ | refine Gs.qkb ?_ | refine G.withT ?_ | refine Gs.withb ?_ | refine G.ift ?_ | refine G.iff ?_ | refine G.gdtt ?_ | refine G.gdff ?_ | refine G.gdtf ?_ | refine G.gdft ?_ | (refine G.jk ?_; intro _)))
        exact Gs.ret (by rw [stepB_0 s d k r h2])
      (repeat (first | refine G.add (by omega) ?_ | refine G.sub (by omega) ?_ | refine G.mul (by omega) ?_ | refine G.neg (by omega) ?_ | refine G.quo (by omega) (by omega) ?_ | refine G.rem (by omega) ?_ | refine G.shr (by omega) ?_ | refine G.conv (by omega) ?_ | refine G.step ?_ | refine G.buildA (by rfl) ?_ | (refine Gs.box ?_; intro _) | (refine Gs.alloc ?_; intro _) | refine Gs.store ?_ | refine G.retc ?_ | refine Gs.dr ?_ | refine G.qadd (by omega) ?_ | refine G.qsub (by omega) ?_ | refine G.qmul (by omega) ?_ | refine G.qneg (by omega) ?_ | refine G.qkp ?_ | refine Gs.qkb ?_ | refine G.withT ?_ | refine Gs.withb ?_ | refine G.ift ?_ | refine G.iff ?_ | refine G.gdtt ?_ | refine G.gdff ?_ | refine G.gdtf ?_ | refine G.gdft ?_ | (refine G.jk ?_; intro _)))
      refine G.ifd ?_ ?_ <;> intro h3
      · (repeat (first | refine G.add (by omega) ?_ | refine G.sub (by omega) ?_ | refine G.mul (by omega) ?_ | refine G.neg (by omega) ?_ | refine G.quo (by omega) (by omega) ?_ | refine G.rem (by omega) ?_ | refine G.shr (by omega) ?_ | refine G.conv (by omega) ?_ | refine G.step ?_ | refine G.buildA (by rfl) ?_ | (refine Gs.box ?_; intro _) | (refine Gs.alloc ?_; intro _) | refine Gs.store ?_ | refine G.retc ?_ | refine Gs.dr ?_ | refine G.qadd (by omega) ?_ | refine G.qsub (by omega) ?_ | refine G.qmul (by omega) ?_ | refine G.qneg (by omega) ?_ | refine G.qkp ?_ | refine Gs.qkb ?_ | refine G.withT ?_ | refine Gs.withb ?_ | refine G.ift ?_ | refine G.iff ?_ | refine G.gdtt ?_ | refine G.gdff ?_ | refine G.gdtf ?_ | refine G.gdft ?_ | (refine G.jk ?_; intro _)))
        refine Gs.callv0 (in_ok s.2 k h) ?_
        exact Gs.ret (by rw [stepB_2 s d k r h3])
      refine G.jnP (fun a => a = .bool (decide (s.1 = 9 ∨ s.1 = 10))) ?_ ?_
      · rintro a rfl
        (repeat (first | refine G.add (by omega) ?_ | refine G.sub (by omega) ?_ | refine G.mul (by omega) ?_ | refine G.neg (by omega) ?_ | refine G.quo (by omega) (by omega) ?_ | refine G.rem (by omega) ?_ | refine G.shr (by omega) ?_ | refine G.conv (by omega) ?_ | refine G.step ?_ | refine G.buildA (by rfl) ?_ | (refine Gs.box ?_; intro _) | (refine Gs.alloc ?_; intro _) | refine Gs.store ?_ | refine G.retc ?_ | refine Gs.dr ?_ | refine G.qadd (by omega) ?_ | refine G.qsub (by omega) ?_ | refine G.qmul (by omega) ?_ | refine G.qneg (by omega) ?_ | refine G.qkp ?_ | refine Gs.qkb ?_ | refine G.withT ?_ | refine Gs.withb ?_ | refine G.ift ?_ | refine G.iff ?_ | refine G.gdtt ?_ | refine G.gdff ?_ | refine G.gdtf ?_ | refine G.gdft ?_ | (refine G.jk ?_; intro _)))
        refine G.ifd ?_ ?_ <;> intro h4
        · (repeat (first | refine G.add (by omega) ?_ | refine G.sub (by omega) ?_ | refine G.mul (by omega) ?_ | refine G.neg (by omega) ?_ | refine G.quo (by omega) (by omega) ?_ | refine G.rem (by omega) ?_ | refine G.shr (by omega) ?_ | refine G.conv (by omega) ?_ | refine G.step ?_ | refine G.buildA (by rfl) ?_ | (refine Gs.box ?_; intro _) | (refine Gs.alloc ?_; intro _) | refine Gs.store ?_ | refine G.retc ?_ | refine Gs.dr ?_ | refine G.qadd (by omega) ?_ | refine G.qsub (by omega) ?_ | refine G.qmul (by omega) ?_ | refine G.qneg (by omega) ?_ | refine G.qkp ?_ | refine Gs.qkb ?_ | refine G.withT ?_ | refine Gs.withb ?_ | refine G.ift ?_ | refine G.iff ?_ | refine G.gdtt ?_ | refine G.gdff ?_ | refine G.gdtf ?_ | refine G.gdft ?_ | (refine G.jk ?_; intro _)))
          refine Gs.callv0 (in_ok s.2 r h) ?_
          exact Gs.ret (by rw [stepB_3 s d k r h4])
        · exact Gs.ret (by rw [stepB_no s d k r (by omega)])
      · intro K hK
        ((repeat (first | refine G.add (by omega) ?_ | refine G.sub (by omega) ?_ | refine G.mul (by omega) ?_ | refine G.neg (by omega) ?_ | refine G.quo (by omega) (by omega) ?_ | refine G.rem (by omega) ?_ | refine G.shr (by omega) ?_ | refine G.conv (by omega) ?_ | refine G.step ?_ | refine G.buildA (by rfl) ?_ | (refine Gs.box ?_; intro _) | (refine Gs.alloc ?_; intro _) | refine Gs.store ?_ | refine G.retc ?_ | refine Gs.dr ?_ | refine G.qadd (by omega) ?_ | refine G.qsub (by omega) ?_ | refine G.qmul (by omega) ?_ | refine G.qneg (by omega) ?_ | refine G.qkp ?_ | refine Gs.qkb ?_ | refine G.withT ?_ | refine Gs.withb ?_ | refine G.ift ?_ | refine G.iff ?_ | refine G.gdtt ?_ | refine G.gdff ?_ | refine G.gdtf ?_ | refine G.gdft ?_ | refine G.jn ?_ | (refine G.jk ?_; intro _))); repeat (any_goals ((first | (refine G.ifd ?_ ?_ <;> intro _) | (refine G.ifb ?_ ?_ <;> intro _) | (refine G.gddt ?_ ?_ <;> intro _) | (refine G.gddf ?_ ?_ <;> intro _) | (refine G.gdbt ?_ ?_ <;> intro _) | (refine G.gdbf ?_ ?_ <;> intro _)) <;> (try (exfalso; omega; done)) <;> (repeat (first | refine G.add (by omega) ?_ | refine G.sub (by omega) ?_ | refine G.mul (by omega) ?_ | refine G.neg (by omega) ?_ | refine G.quo (by omega) (by omega) ?_ | refine G.rem (by omega) ?_ | refine G.shr (by omega) ?_ | refine G.conv (by omega) ?_ | refine G.step ?_ | refine G.buildA (by rfl) ?_ | (refine Gs.box ?_; intro _) | (refine Gs.alloc ?_; intro _) | refine Gs.store ?_ | refine G.retc ?_ | refine Gs.dr ?_ | refine G.qadd (by omega) ?_ | refine G.qsub (by omega) ?_ | refine G.qmul (by omega) ?_ | refine G.qneg (by omega) ?_ | refine G.qkp ?_ | refine Gs.qkb ?_ | refine G.withT ?_ | refine Gs.withb ?_ | refine G.ift ?_ | refine G.iff ?_ | refine G.gdtt ?_ | refine G.gdff ?_ | refine G.gdtf ?_ | refine G.gdft ?_ | refine G.jn ?_ | (refine G.jk ?_; intro _))))))
        · exact hK _ (by congr 1; rw [decide_eq_decide]; omega)
        · exact hK _ (by congr 1; rw [decide_eq_decide]; omega)
    · intro K hK
      ((repeat (first | refine G.add (by omega) ?_ | refine G.sub (by omega) ?_ | refine G.mul (by omega) ?_ | refine G.neg (by omega) ?_ | refine G.quo (by omega) (by omega) ?_ | refine G.rem (by omega) ?_ | refine G.shr (by omega) ?_ | refine G.conv (by omega) ?_ | refine G.step ?_ | refine G.buildA (by rfl) ?_ | (refine Gs.box ?_; intro _) | (refine Gs.alloc ?_; intro _) | refine Gs.store ?_ | refine G.retc ?_ | refine Gs.dr ?_ | refine G.qadd (by omega) ?_ | refine G.qsub (by omega) ?_ | refine G.qmul (by omega) ?_ | refine G.qneg (by omega) ?_ | refine G.qkp ?_ | refine Gs.qkb ?_ | refine G.withT ?_ | refine Gs.withb ?_ | refine G.ift ?_ | refine G.iff ?_ | refine G.gdtt ?_ | refine G.gdff ?_ | refine G.gdtf ?_ | refine G.gdft ?_ | refine G.jn ?_ | (refine G.jk ?_; intro _))); repeat (any_goals ((first | (refine G.ifd ?_ ?_ <;> intro _) | (refine G.ifb ?_ ?_ <;> intro _) | (refine G.gddt ?_ ?_ <;> intro _) | (refine G.gddf ?_ ?_ <;> intro _) | (refine G.gdbt ?_ ?_ <;> intro _) | (refine G.gdbf ?_ ?_ <;> intro _)) <;> (try (exfalso; omega; done)) <;> (repeat (first | refine G.add (by omega) ?_ | refine G.sub (by omega) ?_ | refine G.mul (by omega) ?_ | refine G.neg (by omega) ?_ | refine G.quo (by omega) (by omega) ?_ | refine G.rem (by omega) ?_ | refine G.shr (by omega) ?_ | refine G.conv (by omega) ?_ | refine G.step ?_ | refine G.buildA (by rfl) ?_ | (refine Gs.box ?_; intro _) | (refine Gs.alloc ?_; intro _) | refine Gs.store ?_ | refine G.retc ?_ | refine Gs.dr ?_ | refine G.qadd (by omega) ?_ | refine G.qsub (by omega) ?_ | refine G.qmul (by omega) ?_ | refine G.qneg (by omega) ?_ | refine G.qkp ?_ | refine Gs.qkb ?_ | refine G.withT ?_ | refine Gs.withb ?_ | refine G.ift ?_ | refine G.iff ?_ | refine G.gdtt ?_ | refine G.gdff ?_ | refine G.gdtf ?_ | refine G.gdft ?_ | refine G.jn ?_ | (refine G.jk ?_; intro _))))))
      all_goals exact hK _ (by congr 1; rw [decide_eq_decide]; omega)
  · intro K hK
    ((repeat (first | refine G.add (by omega) ?_ | refine G.sub (by omega) ?_ | refine G.mul (by omega) ?_ | refine G.neg (by omega) ?_ | refine G.quo (by omega) (by omega) ?_ | refine G.rem (by omega) ?_ | refine G.shr (by omega) ?_ | refine G.conv (by omega) ?_ | refine G.step ?_ | refine G.buildA (by rfl) ?_ | (refine Gs.box ?_; intro _) | (refine Gs.alloc ?_; intro _) | refine Gs.store ?_ | refine G.retc ?_ | refine Gs.dr ?_ | refine G.qadd (by omega) ?_ | refine G.qsub (by omega) ?_ | refine G.qmul (by omega) ?_ | refine G.qneg (by omega) ?_ | refine G.qkp ?_ | refine Gs.qkb ?_ | refine G.withT ?_ | refine Gs.withb ?_ | refine G.ift ?_ | refine G.iff ?_ | refine G.gdtt ?_ | refine G.gdff ?_ | refine G.gdtf ?_ | refine G.gdft ?_ | refine G.jn ?_ | (refine G.jk ?_; intro _))); repeat (any_goals ((first | (refine G.ifd ?_ ?_ <;> intro _) | (refine G.ifb ?_ ?_ <;> intro _) | (refine G.gddt ?_ ?_ <;> intro _) | (refine G.gddf ?_ ?_ <;> intro _) | (refine G.gdbt ?_ ?_ <;> intro _) | (refine G.gdbf ?_ ?_ <;> intro _)) <;> (try (exfalso; omega; done)) <;> (repeat (first | refine G.add (by omega) ?_ | refine G.sub (by omega) ?_ | refine G.mul (by omega) ?_ | refine G.neg (by omega) ?_ | refine G.quo (by omega) (by omega) ?_ | refine G.rem (by omega) ?_ | refine G.shr (by omega) ?_ | refine G.conv (by omega) ?_ | refine G.step ?_ | refine G.buildA (by rfl) ?_ | (refine Gs.box ?_; intro _) | (refine Gs.alloc ?_; intro _) | refine Gs.store ?_ | refine G.retc ?_ | refine Gs.dr ?_ | refine G.qadd (by omega) ?_ | refine G.qsub (by omega) ?_ | refine G.qmul (by omega) ?_ | refine G.qneg (by omega) ?_ | refine G.qkp ?_ | refine Gs.qkb ?_ | refine G.withT ?_ | refine Gs.withb ?_ | refine G.ift ?_ | refine G.iff ?_ | refine G.gdtt ?_ | refine G.gdff ?_ | refine G.gdtf ?_ | refine G.gdft ?_ | refine G.jn ?_ | (refine G.jk ?_; intro _))))))
    all_goals exact hK _ (by congr 1; rw [decide_eq_decide]; omega)
theorem rvalid_ok (l : List Stp) (v : Value) (d k r : Int) (h : Hp) (hr : RdE h v encP 2 l) (hl : l.length ≤ 1000000) : Ct Tryz.prog 14 [v, I d, I k, I r] h (fun _ x => x = .bool (validB l d k r)) := by
  refine ct14 ?_
  intro w0
  unfold s14
  have no : ¬ (0 < l.length ∧ l.length ≤ 8 ∧ allB l d k r = true ∧ cnt l 6 ≤ 2 ∧ cnt l 7 ≤ 1 ∧ cnt l 8 ≤ 1) → validB l d k r = false := fun hh => decide_eq_false hh
  have h0 : allB (l.drop 0) d k r = allB l d k r := rfl
  refine Gs.lp (β := Nat) (fun i => I i) (fun _ => h) (fun _ => []) (fun i => i ≤ l.length ∧ allB (l.drop i) d k r = allB l d k r) (fun i => l.length - i) 0 rfl ⟨Nat.zero_le _, h0⟩ (fun _ h => h) ?_
  rintro i ⟨hi, hR⟩ cont hc
  (repeat (first | refine G.add (by omega) ?_ | refine G.sub (by omega) ?_ | refine G.mul (by omega) ?_ | refine G.neg (by omega) ?_ | refine G.quo (by omega) (by omega) ?_ | refine G.rem (by omega) ?_ | refine G.shr (by omega) ?_ | refine G.conv (by omega) ?_ | refine G.step ?_ | refine G.buildA (by rfl) ?_ | (refine Gs.box ?_; intro _) | (refine Gs.alloc ?_; intro _) | refine Gs.store ?_ | refine G.retc ?_ | refine Gs.dr ?_ | refine G.qadd (by omega) ?_ | refine G.qsub (by omega) ?_ | refine G.qmul (by omega) ?_ | refine G.qneg (by omega) ?_ | refine G.qkp ?_ | refine Gs.qkb ?_ | refine G.withT ?_ | refine Gs.withb ?_ | refine G.ift ?_ | refine G.iff ?_ | refine G.gdtt ?_ | refine G.gdff ?_ | refine G.gdtf ?_ | refine G.gdft ?_ | (refine G.jk ?_; intro _)))
  refine Gs.lenE hr (by omega) ?_
  (repeat (first | refine G.add (by omega) ?_ | refine G.sub (by omega) ?_ | refine G.mul (by omega) ?_ | refine G.neg (by omega) ?_ | refine G.quo (by omega) (by omega) ?_ | refine G.rem (by omega) ?_ | refine G.shr (by omega) ?_ | refine G.conv (by omega) ?_ | refine G.step ?_ | refine G.buildA (by rfl) ?_ | (refine Gs.box ?_; intro _) | (refine Gs.alloc ?_; intro _) | refine Gs.store ?_ | refine G.retc ?_ | refine Gs.dr ?_ | refine G.qadd (by omega) ?_ | refine G.qsub (by omega) ?_ | refine G.qmul (by omega) ?_ | refine G.qneg (by omega) ?_ | refine G.qkp ?_ | refine Gs.qkb ?_ | refine G.withT ?_ | refine Gs.withb ?_ | refine G.ift ?_ | refine G.iff ?_ | refine G.gdtt ?_ | refine G.gdff ?_ | refine G.gdtf ?_ | refine G.gdft ?_ | (refine G.jk ?_; intro _)))
  refine G.ifd ?_ ?_ <;> intro hlt
  · have hlt' : i < l.length := by omega
    have hd : allB (l.drop i) d k r = (stepB l[i] d k r && allB (l.drop (i + 1)) d k r) := by
      unfold allB
      rw [List.drop_eq_getElem_cons hlt', List.all_cons]
    refine Gs.indexE hr hlt' ?_
    intro b1 o1 hp
    refine Gs.loadPN hp rfl ?_
    refine Gs.callv0 (rstep_ok l[i] d k r h) ?_
    cases hs : stepB l[i] d k r
    · (repeat (first | refine G.add (by omega) ?_ | refine G.sub (by omega) ?_ | refine G.mul (by omega) ?_ | refine G.neg (by omega) ?_ | refine G.quo (by omega) (by omega) ?_ | refine G.rem (by omega) ?_ | refine G.shr (by omega) ?_ | refine G.conv (by omega) ?_ | refine G.step ?_ | refine G.buildA (by rfl) ?_ | (refine Gs.box ?_; intro _) | (refine Gs.alloc ?_; intro _) | refine Gs.store ?_ | refine G.retc ?_ | refine Gs.dr ?_ | refine G.qadd (by omega) ?_ | refine G.qsub (by omega) ?_ | refine G.qmul (by omega) ?_ | refine G.qneg (by omega) ?_ | refine G.qkp ?_ | refine Gs.qkb ?_ | refine G.withT ?_ | refine Gs.withb ?_ | refine G.ift ?_ | refine G.iff ?_ | refine G.gdtt ?_ | refine G.gdff ?_ | refine G.gdtf ?_ | refine G.gdft ?_ | (refine G.jk ?_; intro _)))
      exact Gs.ret (by rw [no (by rw [← hR, hd, hs]; simp)])
    · (repeat (first | refine G.add (by omega) ?_ | refine G.sub (by omega) ?_ | refine G.mul (by omega) ?_ | refine G.neg (by omega) ?_ | refine G.quo (by omega) (by omega) ?_ | refine G.rem (by omega) ?_ | refine G.shr (by omega) ?_ | refine G.conv (by omega) ?_ | refine G.step ?_ | refine G.buildA (by rfl) ?_ | (refine Gs.box ?_; intro _) | (refine Gs.alloc ?_; intro _) | refine Gs.store ?_ | refine G.retc ?_ | refine Gs.dr ?_ | refine G.qadd (by omega) ?_ | refine G.qsub (by omega) ?_ | refine G.qmul (by omega) ?_ | refine G.qneg (by omega) ?_ | refine G.qkp ?_ | refine Gs.qkb ?_ | refine G.withT ?_ | refine Gs.withb ?_ | refine G.ift ?_ | refine G.iff ?_ | refine G.gdtt ?_ | refine G.gdff ?_ | refine G.gdtf ?_ | refine G.gdft ?_ | (refine G.jk ?_; intro _)))
      exact Gs.go (hc (i + 1) ⟨by omega, by rw [← hR, hd, hs]; rfl⟩ (by omega)) rfl
  · have ha : allB l d k r = true := by rw [← hR, List.drop_eq_nil_of_le (by omega)]; rfl
    refine Gs.lenE hr (by omega) ?_
    (repeat (first | refine G.add (by omega) ?_ | refine G.sub (by omega) ?_ | refine G.mul (by omega) ?_ | refine G.neg (by omega) ?_ | refine G.quo (by omega) (by omega) ?_ | refine G.rem (by omega) ?_ | refine G.shr (by omega) ?_ | refine G.conv (by omega) ?_ | refine G.step ?_ | refine G.buildA (by rfl) ?_ | (refine Gs.box ?_; intro _) | (refine Gs.alloc ?_; intro _) | refine Gs.store ?_ | refine G.retc ?_ | refine Gs.dr ?_ | refine G.qadd (by omega) ?_ | refine G.qsub (by omega) ?_ | refine G.qmul (by omega) ?_ | refine G.qneg (by omega) ?_ | refine G.qkp ?_ | refine Gs.qkb ?_ | refine G.withT ?_ | refine Gs.withb ?_ | refine G.ift ?_ | refine G.iff ?_ | refine G.gdtt ?_ | refine G.gdff ?_ | refine G.gdtf ?_ | refine G.gdft ?_ | (refine G.jk ?_; intro _)))
    refine G.gddt ?_ ?_ <;> intro h1
    · refine Gs.lenE hr (by omega) ?_
      (repeat (first | refine G.add (by omega) ?_ | refine G.sub (by omega) ?_ | refine G.mul (by omega) ?_ | refine G.neg (by omega) ?_ | refine G.quo (by omega) (by omega) ?_ | refine G.rem (by omega) ?_ | refine G.shr (by omega) ?_ | refine G.conv (by omega) ?_ | refine G.step ?_ | refine G.buildA (by rfl) ?_ | (refine Gs.box ?_; intro _) | (refine Gs.alloc ?_; intro _) | refine Gs.store ?_ | refine G.retc ?_ | refine Gs.dr ?_ | refine G.qadd (by omega) ?_ | refine G.qsub (by omega) ?_ | refine G.qmul (by omega) ?_ | refine G.qneg (by omega) ?_ | refine G.qkp ?_ | refine Gs.qkb ?_ | refine G.withT ?_ | refine Gs.withb ?_ | refine G.ift ?_ | refine G.iff ?_ | refine G.gdtt ?_ | refine G.gdff ?_ | refine G.gdtf ?_ | refine G.gdft ?_ | (refine G.jk ?_; intro _)))
      refine G.gddt ?_ ?_ <;> intro h2
      · refine Gs.callv0 (rcount_ok l v 6 h hr hl) ?_
        (repeat (first | refine G.add (by omega) ?_ | refine G.sub (by omega) ?_ | refine G.mul (by omega) ?_ | refine G.neg (by omega) ?_ | refine G.quo (by omega) (by omega) ?_ | refine G.rem (by omega) ?_ | refine G.shr (by omega) ?_ | refine G.conv (by omega) ?_ | refine G.step ?_ | refine G.buildA (by rfl) ?_ | (refine Gs.box ?_; intro _) | (refine Gs.alloc ?_; intro _) | refine Gs.store ?_ | refine G.retc ?_ | refine Gs.dr ?_ | refine G.qadd (by omega) ?_ | refine G.qsub (by omega) ?_ | refine G.qmul (by omega) ?_ | refine G.qneg (by omega) ?_ | refine G.qkp ?_ | refine Gs.qkb ?_ | refine G.withT ?_ | refine Gs.withb ?_ | refine G.ift ?_ | refine G.iff ?_ | refine G.gdtt ?_ | refine G.gdff ?_ | refine G.gdtf ?_ | refine G.gdft ?_ | (refine G.jk ?_; intro _)))
        refine G.gddt ?_ ?_ <;> intro h3
        · refine Gs.callv0 (rcount_ok l v 7 h hr hl) ?_
          (repeat (first | refine G.add (by omega) ?_ | refine G.sub (by omega) ?_ | refine G.mul (by omega) ?_ | refine G.neg (by omega) ?_ | refine G.quo (by omega) (by omega) ?_ | refine G.rem (by omega) ?_ | refine G.shr (by omega) ?_ | refine G.conv (by omega) ?_ | refine G.step ?_ | refine G.buildA (by rfl) ?_ | (refine Gs.box ?_; intro _) | (refine Gs.alloc ?_; intro _) | refine Gs.store ?_ | refine G.retc ?_ | refine Gs.dr ?_ | refine G.qadd (by omega) ?_ | refine G.qsub (by omega) ?_ | refine G.qmul (by omega) ?_ | refine G.qneg (by omega) ?_ | refine G.qkp ?_ | refine Gs.qkb ?_ | refine G.withT ?_ | refine Gs.withb ?_ | refine G.ift ?_ | refine G.iff ?_ | refine G.gdtt ?_ | refine G.gdff ?_ | refine G.gdtf ?_ | refine G.gdft ?_ | (refine G.jk ?_; intro _)))
          refine G.gddt ?_ ?_ <;> intro h4
          · refine Gs.callv0 (rcount_ok l v 8 h hr hl) ?_
            (repeat (first | refine G.add (by omega) ?_ | refine G.sub (by omega) ?_ | refine G.mul (by omega) ?_ | refine G.neg (by omega) ?_ | refine G.quo (by omega) (by omega) ?_ | refine G.rem (by omega) ?_ | refine G.shr (by omega) ?_ | refine G.conv (by omega) ?_ | refine G.step ?_ | refine G.buildA (by rfl) ?_ | (refine Gs.box ?_; intro _) | (refine Gs.alloc ?_; intro _) | refine Gs.store ?_ | refine G.retc ?_ | refine Gs.dr ?_ | refine G.qadd (by omega) ?_ | refine G.qsub (by omega) ?_ | refine G.qmul (by omega) ?_ | refine G.qneg (by omega) ?_ | refine G.qkp ?_ | refine Gs.qkb ?_ | refine G.withT ?_ | refine Gs.withb ?_ | refine G.ift ?_ | refine G.iff ?_ | refine G.gdtt ?_ | refine G.gdff ?_ | refine G.gdtf ?_ | refine G.gdft ?_ | (refine G.jk ?_; intro _)))
            refine Gs.ret (congrArg Value.bool ?_)
            unfold validB
            rw [decide_eq_decide, ha]
            exact ⟨fun h5 => ⟨by omega, by omega, rfl, by omega, by omega, by omega⟩, fun ⟨_, _, _, _, _, h5⟩ => by omega⟩
          · exact Gs.ret (by rw [no (by omega)])
        · exact Gs.ret (by rw [no (by omega)])
      · exact Gs.ret (by rw [no (by omega)])
    · exact Gs.ret (by rw [no (by omega)])
theorem take_eq_succ {α : Type} {l m : List α} {i : Nat} (h : l.take i = m.take i) (hi : i < l.length) (hj : i < m.length) (he : l[i] = m[i]) : l.take (i + 1) = m.take (i + 1) := by
  rw [List.take_succ_eq_append_getElem hi, List.take_succ_eq_append_getElem hj, h, he]
theorem sameInts_ok (l m : List Int) (v u : Value) (h : Hp) (hr : RdE h v eInt 1 l) (hq : RdE h u eInt 1 m) (hl : l.length ≤ 1000000) (hm : m.length ≤ 1000000) : Ct Tryz.prog 17 [v, u] h (fun _ x => x = .bool (decide (l = m))) := by
  refine ct17 ?_
  intro w0
  unfold s17
  refine Gs.lenE hr (by omega) ?_
  refine Gs.lenE hq (by omega) ?_
  (repeat (first | refine G.add (by omega) ?_ | refine G.sub (by omega) ?_ | refine G.mul (by omega) ?_ | refine G.neg (by omega) ?_ | refine G.quo (by omega) (by omega) ?_ | refine G.rem (by omega) ?_ | refine G.shr (by omega) ?_ | refine G.conv (by omega) ?_ | refine G.step ?_ | refine G.buildA (by rfl) ?_ | (refine Gs.box ?_; intro _) | (refine Gs.alloc ?_; intro _) | refine Gs.store ?_ | refine G.retc ?_ | refine Gs.dr ?_ | refine G.qadd (by omega) ?_ | refine G.qsub (by omega) ?_ | refine G.qmul (by omega) ?_ | refine G.qneg (by omega) ?_ | refine G.qkp ?_ | refine Gs.qkb ?_ | refine G.withT ?_ | refine Gs.withb ?_ | refine G.ift ?_ | refine G.iff ?_ | refine G.gdtt ?_ | refine G.gdff ?_ | refine G.gdtf ?_ | refine G.gdft ?_ | (refine G.jk ?_; intro _)))
  refine G.ifd ?_ ?_ <;> intro hne
  · exact Gs.ret (by rw [decide_eq_false (fun e => hne (by rw [e]))])
  have hlen : l.length = m.length := by omega
  refine Gs.lp (β := Nat) (fun i => I i) (fun _ => h) (fun _ => []) (fun i => i ≤ l.length ∧ l.take i = m.take i) (fun i => l.length - i) 0 rfl ⟨Nat.zero_le _, rfl⟩ (fun _ h => h) ?_
  rintro i ⟨hi, hR⟩ cont hc
  (repeat (first | refine G.add (by omega) ?_ | refine G.sub (by omega) ?_ | refine G.mul (by omega) ?_ | refine G.neg (by omega) ?_ | refine G.quo (by omega) (by omega) ?_ | refine G.rem (by omega) ?_ | refine G.shr (by omega) ?_ | refine G.conv (by omega) ?_ | refine G.step ?_ | refine G.buildA (by rfl) ?_ | (refine Gs.box ?_; intro _) | (refine Gs.alloc ?_; intro _) | refine Gs.store ?_ | refine G.retc ?_ | refine Gs.dr ?_ | refine G.qadd (by omega) ?_ | refine G.qsub (by omega) ?_ | refine G.qmul (by omega) ?_ | refine G.qneg (by omega) ?_ | refine G.qkp ?_ | refine Gs.qkb ?_ | refine G.withT ?_ | refine Gs.withb ?_ | refine G.ift ?_ | refine G.iff ?_ | refine G.gdtt ?_ | refine G.gdff ?_ | refine G.gdtf ?_ | refine G.gdft ?_ | (refine G.jk ?_; intro _)))
  refine Gs.lenE hr (by omega) ?_
  (repeat (first | refine G.add (by omega) ?_ | refine G.sub (by omega) ?_ | refine G.mul (by omega) ?_ | refine G.neg (by omega) ?_ | refine G.quo (by omega) (by omega) ?_ | refine G.rem (by omega) ?_ | refine G.shr (by omega) ?_ | refine G.conv (by omega) ?_ | refine G.step ?_ | refine G.buildA (by rfl) ?_ | (refine Gs.box ?_; intro _) | (refine Gs.alloc ?_; intro _) | refine Gs.store ?_ | refine G.retc ?_ | refine Gs.dr ?_ | refine G.qadd (by omega) ?_ | refine G.qsub (by omega) ?_ | refine G.qmul (by omega) ?_ | refine G.qneg (by omega) ?_ | refine G.qkp ?_ | refine Gs.qkb ?_ | refine G.withT ?_ | refine Gs.withb ?_ | refine G.ift ?_ | refine G.iff ?_ | refine G.gdtt ?_ | refine G.gdff ?_ | refine G.gdtf ?_ | refine G.gdft ?_ | (refine G.jk ?_; intro _)))
  refine G.ifd ?_ ?_ <;> intro hlt
  · have hlt' : i < l.length := by omega
    have hlt2 : i < m.length := by omega
    (repeat (first | refine G.add (by omega) ?_ | refine G.sub (by omega) ?_ | refine G.mul (by omega) ?_ | refine G.neg (by omega) ?_ | refine G.quo (by omega) (by omega) ?_ | refine G.rem (by omega) ?_ | refine G.shr (by omega) ?_ | refine G.conv (by omega) ?_ | refine G.step ?_ | refine G.buildA (by rfl) ?_ | (refine Gs.box ?_; intro _) | (refine Gs.alloc ?_; intro _) | refine Gs.store ?_ | refine G.retc ?_ | refine Gs.dr ?_ | refine G.qadd (by omega) ?_ | refine G.qsub (by omega) ?_ | refine G.qmul (by omega) ?_ | refine G.qneg (by omega) ?_ | refine G.qkp ?_ | refine Gs.qkb ?_ | refine G.withT ?_ | refine Gs.withb ?_ | refine G.ift ?_ | refine G.iff ?_ | refine G.gdtt ?_ | refine G.gdff ?_ | refine G.gdtf ?_ | refine G.gdft ?_ | (refine G.jk ?_; intro _)))
    refine Gs.qindexE hr hlt' ?_
    intro b1 o1 hp
    refine Gs.qloadP1 hp ?_
    refine Gs.qindexE hq hlt2 ?_
    intro b2 o2 hp2
    refine Gs.qloadP1 hp2 ?_
    (repeat (first | refine G.add (by omega) ?_ | refine G.sub (by omega) ?_ | refine G.mul (by omega) ?_ | refine G.neg (by omega) ?_ | refine G.quo (by omega) (by omega) ?_ | refine G.rem (by omega) ?_ | refine G.shr (by omega) ?_ | refine G.conv (by omega) ?_ | refine G.step ?_ | refine G.buildA (by rfl) ?_ | (refine Gs.box ?_; intro _) | (refine Gs.alloc ?_; intro _) | refine Gs.store ?_ | refine G.retc ?_ | refine Gs.dr ?_ | refine G.qadd (by omega) ?_ | refine G.qsub (by omega) ?_ | refine G.qmul (by omega) ?_ | refine G.qneg (by omega) ?_ | refine G.qkp ?_ | refine Gs.qkb ?_ | refine G.withT ?_ | refine Gs.withb ?_ | refine G.ift ?_ | refine G.iff ?_ | refine G.gdtt ?_ | refine G.gdff ?_ | refine G.gdtf ?_ | refine G.gdft ?_ | (refine G.jk ?_; intro _)))
    refine G.ifd ?_ ?_ <;> intro he
    · exact Gs.ret (by rw [decide_eq_false (fun e => he (by subst e; rfl))])
    · (repeat (first | refine G.add (by omega) ?_ | refine G.sub (by omega) ?_ | refine G.mul (by omega) ?_ | refine G.neg (by omega) ?_ | refine G.quo (by omega) (by omega) ?_ | refine G.rem (by omega) ?_ | refine G.shr (by omega) ?_ | refine G.conv (by omega) ?_ | refine G.step ?_ | refine G.buildA (by rfl) ?_ | (refine Gs.box ?_; intro _) | (refine Gs.alloc ?_; intro _) | refine Gs.store ?_ | refine G.retc ?_ | refine Gs.dr ?_ | refine G.qadd (by omega) ?_ | refine G.qsub (by omega) ?_ | refine G.qmul (by omega) ?_ | refine G.qneg (by omega) ?_ | refine G.qkp ?_ | refine Gs.qkb ?_ | refine G.withT ?_ | refine Gs.withb ?_ | refine G.ift ?_ | refine G.iff ?_ | refine G.gdtt ?_ | refine G.gdff ?_ | refine G.gdtf ?_ | refine G.gdft ?_ | (refine G.jk ?_; intro _)))
      exact Gs.go (hc (i + 1) ⟨by omega, take_eq_succ hR hlt' hlt2 (by omega)⟩ (by omega)) rfl
  · refine Gs.ret ?_
    rw [List.take_of_length_le (by omega), List.take_of_length_le (by omega)] at hR
    rw [decide_eq_true hR]
theorem same_ok (l m : List Stp) (v u : Value) (h : Hp) (hr : RdE h v encP 2 l) (hq : RdE h u encP 2 m) (hl : l.length ≤ 1000000) (hm : m.length ≤ 1000000) : Ct Tryz.prog 24 [v, u] h (fun _ x => x = .bool (decide (l = m))) := by
  refine ct24 ?_
  intro w0
  unfold s24
  refine Gs.lenE hr (by omega) ?_
  refine Gs.lenE hq (by omega) ?_
  (repeat (first | refine G.add (by omega) ?_ | refine G.sub (by omega) ?_ | refine G.mul (by omega) ?_ | refine G.neg (by omega) ?_ | refine G.quo (by omega) (by omega) ?_ | refine G.rem (by omega) ?_ | refine G.shr (by omega) ?_ | refine G.conv (by omega) ?_ | refine G.step ?_ | refine G.buildA (by rfl) ?_ | (refine Gs.box ?_; intro _) | (refine Gs.alloc ?_; intro _) | refine Gs.store ?_ | refine G.retc ?_ | refine Gs.dr ?_ | refine G.qadd (by omega) ?_ | refine G.qsub (by omega) ?_ | refine G.qmul (by omega) ?_ | refine G.qneg (by omega) ?_ | refine G.qkp ?_ | refine Gs.qkb ?_ | refine G.withT ?_ | refine Gs.withb ?_ | refine G.ift ?_ | refine G.iff ?_ | refine G.gdtt ?_ | refine G.gdff ?_ | refine G.gdtf ?_ | refine G.gdft ?_ | (refine G.jk ?_; intro _)))
  refine G.ifd ?_ ?_ <;> intro hne
  · exact Gs.ret (by rw [decide_eq_false (fun e => hne (by rw [e]))])
  have hlen : l.length = m.length := by omega
  refine Gs.lp (β := Nat) (fun i => I i) (fun _ => h) (fun _ => []) (fun i => i ≤ l.length ∧ l.take i = m.take i) (fun i => l.length - i) 0 rfl ⟨Nat.zero_le _, rfl⟩ (fun _ h => h) ?_
  rintro i ⟨hi, hR⟩ cont hc
  (repeat (first | refine G.add (by omega) ?_ | refine G.sub (by omega) ?_ | refine G.mul (by omega) ?_ | refine G.neg (by omega) ?_ | refine G.quo (by omega) (by omega) ?_ | refine G.rem (by omega) ?_ | refine G.shr (by omega) ?_ | refine G.conv (by omega) ?_ | refine G.step ?_ | refine G.buildA (by rfl) ?_ | (refine Gs.box ?_; intro _) | (refine Gs.alloc ?_; intro _) | refine Gs.store ?_ | refine G.retc ?_ | refine Gs.dr ?_ | refine G.qadd (by omega) ?_ | refine G.qsub (by omega) ?_ | refine G.qmul (by omega) ?_ | refine G.qneg (by omega) ?_ | refine G.qkp ?_ | refine Gs.qkb ?_ | refine G.withT ?_ | refine Gs.withb ?_ | refine G.ift ?_ | refine G.iff ?_ | refine G.gdtt ?_ | refine G.gdff ?_ | refine G.gdtf ?_ | refine G.gdft ?_ | (refine G.jk ?_; intro _)))
  refine Gs.lenE hr (by omega) ?_
  (repeat (first | refine G.add (by omega) ?_ | refine G.sub (by omega) ?_ | refine G.mul (by omega) ?_ | refine G.neg (by omega) ?_ | refine G.quo (by omega) (by omega) ?_ | refine G.rem (by omega) ?_ | refine G.shr (by omega) ?_ | refine G.conv (by omega) ?_ | refine G.step ?_ | refine G.buildA (by rfl) ?_ | (refine Gs.box ?_; intro _) | (refine Gs.alloc ?_; intro _) | refine Gs.store ?_ | refine G.retc ?_ | refine Gs.dr ?_ | refine G.qadd (by omega) ?_ | refine G.qsub (by omega) ?_ | refine G.qmul (by omega) ?_ | refine G.qneg (by omega) ?_ | refine G.qkp ?_ | refine Gs.qkb ?_ | refine G.withT ?_ | refine Gs.withb ?_ | refine G.ift ?_ | refine G.iff ?_ | refine G.gdtt ?_ | refine G.gdff ?_ | refine G.gdtf ?_ | refine G.gdft ?_ | (refine G.jk ?_; intro _)))
  refine G.ifd ?_ ?_ <;> intro hlt
  · have hlt' : i < l.length := by omega
    have hlt2 : i < m.length := by omega
    (repeat (first | refine G.add (by omega) ?_ | refine G.sub (by omega) ?_ | refine G.mul (by omega) ?_ | refine G.neg (by omega) ?_ | refine G.quo (by omega) (by omega) ?_ | refine G.rem (by omega) ?_ | refine G.shr (by omega) ?_ | refine G.conv (by omega) ?_ | refine G.step ?_ | refine G.buildA (by rfl) ?_ | (refine Gs.box ?_; intro _) | (refine Gs.alloc ?_; intro _) | refine Gs.store ?_ | refine G.retc ?_ | refine Gs.dr ?_ | refine G.qadd (by omega) ?_ | refine G.qsub (by omega) ?_ | refine G.qmul (by omega) ?_ | refine G.qneg (by omega) ?_ | refine G.qkp ?_ | refine Gs.qkb ?_ | refine G.withT ?_ | refine Gs.withb ?_ | refine G.ift ?_ | refine G.iff ?_ | refine G.gdtt ?_ | refine G.gdff ?_ | refine G.gdtf ?_ | refine G.gdft ?_ | (refine G.jk ?_; intro _)))
    refine Gs.qindexE hr hlt' ?_
    intro b1 o1 hp
    refine Gs.qloadPN hp rfl ?_
    refine Gs.qindexE hq hlt2 ?_
    intro b2 o2 hp2
    refine Gs.qloadPN hp2 rfl ?_
    (repeat (first | refine G.add (by omega) ?_ | refine G.sub (by omega) ?_ | refine G.mul (by omega) ?_ | refine G.neg (by omega) ?_ | refine G.quo (by omega) (by omega) ?_ | refine G.rem (by omega) ?_ | refine G.shr (by omega) ?_ | refine G.conv (by omega) ?_ | refine G.step ?_ | refine G.buildA (by rfl) ?_ | (refine Gs.box ?_; intro _) | (refine Gs.alloc ?_; intro _) | refine Gs.store ?_ | refine G.retc ?_ | refine Gs.dr ?_ | refine G.qadd (by omega) ?_ | refine G.qsub (by omega) ?_ | refine G.qmul (by omega) ?_ | refine G.qneg (by omega) ?_ | refine G.qkp ?_ | refine Gs.qkb ?_ | refine G.withT ?_ | refine Gs.withb ?_ | refine G.ift ?_ | refine G.iff ?_ | refine G.gdtt ?_ | refine G.gdff ?_ | refine G.gdtf ?_ | refine G.gdft ?_ | (refine G.jk ?_; intro _)))
    refine G.ifd ?_ ?_ <;> intro he
    · exact Gs.ret (by rw [decide_eq_false (fun e => he (by subst e; rfl))])
    · (repeat (first | refine G.add (by omega) ?_ | refine G.sub (by omega) ?_ | refine G.mul (by omega) ?_ | refine G.neg (by omega) ?_ | refine G.quo (by omega) (by omega) ?_ | refine G.rem (by omega) ?_ | refine G.shr (by omega) ?_ | refine G.conv (by omega) ?_ | refine G.step ?_ | refine G.buildA (by rfl) ?_ | (refine Gs.box ?_; intro _) | (refine Gs.alloc ?_; intro _) | refine Gs.store ?_ | refine G.retc ?_ | refine Gs.dr ?_ | refine G.qadd (by omega) ?_ | refine G.qsub (by omega) ?_ | refine G.qmul (by omega) ?_ | refine G.qneg (by omega) ?_ | refine G.qkp ?_ | refine Gs.qkb ?_ | refine G.withT ?_ | refine Gs.withb ?_ | refine G.ift ?_ | refine G.iff ?_ | refine G.gdtt ?_ | refine G.gdff ?_ | refine G.gdtf ?_ | refine G.gdft ?_ | (refine G.jk ?_; intro _)))
      refine Gs.go (hc (i + 1) ⟨by omega, take_eq_succ hR hlt' hlt2 ?_⟩ (by omega)) rfl
      have he : [l[i].1, l[i].2] = [m[i].1, m[i].2] := Classical.byContradiction he
      simp only [List.cons.injEq, and_true] at he
      exact Prod.ext he.1 he.2
  · refine Gs.ret ?_
    rw [List.take_of_length_le (by omega), List.take_of_length_le (by omega)] at hR
    rw [decide_eq_true hR]
end Go.Proofs.YtlljhipmnkdpeaaGreatDoor
end

section
set_option linter.unusedVariables false
set_option maxHeartbeats 4000000
namespace Go.Proofs.YtlljhipmnkdpeaaGreatDoor
open Go Go.Sk Go.Pr Go.RowKit
/-- What the library's variables hold. -/
structure Env (h : Hp) : Prop where
  pow : ∀ w, Hle h (World.hp w) → Lib.TabIs Tryz.prog w "internal/strconv.uint64pow10" .u64 Lib.pow10Tab
  mx : ∃ m, ∀ w, Hle h (World.hp w) → w.cell? ⟨1, 0, none⟩ = some (.int .i64 m)
  esyn : ∃ tp p, ∀ w, Hle h (World.hp w) → w.var? Tryz.prog "strconv.ErrSyntax" = some #[.iface tp p]
  eran : ∃ tp p, ∀ w, Hle h (World.hp w) → w.var? Tryz.prog "strconv.ErrRange" = some #[.iface tp p]
theorem Env.mono {h h' : Hp} (hle : Hle h h') (e : Env h) : Env h' where
  pow := fun w hw => e.pow w (hle.trans hw)
  mx := e.mx.imp fun m hm w hw => hm w (hle.trans hw)
  esyn := by obtain ⟨tp, p, hp⟩ := e.esyn; exact ⟨tp, p, fun w hw => hp w (hle.trans hw)⟩
  eran := by obtain ⟨tp, p, hp⟩ := e.eran; exact ⟨tp, p, fun w hw => hp w (hle.trans hw)⟩
theorem below_grow' (w : World) (k : Nat) (os : Array Obj) : Below w.heap.size w (Sort.grow (w.drewN k) os) := by
  refine ⟨rfl, rfl, rfl, ?_, fun b hb => ?_⟩
  · show w.heap.size ≤ (w.heap ++ os).size
    simp
  · show (w.heap ++ os)[b]? = _
    rw [Array.getElem?_append_left hb]
theorem Itoa_ok (n : Int) (h : Hp) (h1 : -9223372036854775808 ≤ n) (h2 : n ≤ 9223372036854775807) (he : Env h) : Ct Tryz.prog 38 [I n] h (fun _ v => v = Str (Lib.itoa n)) :=
  Ct.lib fun w hw => Calls.mono (Any.strconv_Itoa Tryz.laysM171 n h1 h2 w (he.pow w hw)) fun e w' hh => by
    obtain ⟨h3, k, os, h4⟩ := hh
    subst h4
    exact ⟨_, h3, rfl, below_grow' w k os⟩
/-- How Atoi ends. -/
def AtoiR (l : List UInt8) (v : Value) : Prop := ∃ n err, v = .tuple #[I n, err] ∧ -9223372036854775808 ≤ n ∧ n ≤ 9223372036854775807 ∧ ((err = .nilIface ∧ Lib.atoiAll l = .ok n) ∨ ((∃ tp N, err = .iface tp (.pointer (some ⟨N, 0, none⟩))) ∧ ∀ m, Lib.atoiAll l ≠ .ok m))
theorem Atoi_ok (l : List UInt8) (h : Hp) (hE : Env h) (hl : l.length ≤ 4294967281) : Ct Tryz.prog 55 [Str l] h (fun _ v => AtoiR l v) := by
  obtain ⟨ts, ps, hs⟩ := hE.esyn
  obtain ⟨tr, pr, hr⟩ := hE.eran
  have hsz : (⟨l.toArray⟩ : ByteArray).size = l.length := by simp [ByteArray.size]
  refine Ct.lib fun w hw => ?_
  cases hA : Lib.atoiAll l
  · rename_i v
    refine Calls.mono (Any.strconv_Atoi_ok Tryz.laysC172 ⟨l.toArray⟩ (by omega) v hA w) fun e w' hh => ?_
    obtain ⟨h1, h2⟩ := hh
    have hb := Lib.atoiAll_bounds hA
    refine ⟨_, h1, ⟨v, .nilIface, rfl, hb.1, hb.2, .inl ⟨rfl, hA⟩⟩, ?_⟩
    rcases h2 with h2 | ⟨t, h2⟩
    · subst h2; exact Below.refl _ _
    · subst h2; exact Joins.below_bytesWorld _ w 5 t (Nat.le_refl _)
  · refine Calls.mono (Any.strconv_Atoi_syntax_var Tryz.laysC172 ⟨l.toArray⟩ (by omega) hA ts ps w (hs w hw)) fun e w' hh => ?_
    obtain ⟨N, h1, _, _, h2⟩ := hh
    exact ⟨_, h1, ⟨0, _, rfl, by decide, by decide, .inr ⟨⟨_, N, rfl⟩, fun m hm => by rw [hA] at hm; cases hm⟩⟩, h2⟩
  · refine Calls.mono (Any.strconv_Atoi_range_var Tryz.laysC172 ⟨l.toArray⟩ (by omega) hA tr pr w (hr w hw)) fun e w' hh => ?_
    obtain ⟨N, h1, _, _, h2⟩ := hh
    have hb := Lib.atoiSat_bounds l
    exact ⟨_, h1, ⟨_, _, rfl, hb.1, hb.2, .inr ⟨⟨_, N, rfl⟩, fun m hm => by rw [hA] at hm; cases hm⟩⟩, h2⟩
theorem CutPrefix_ok (l p : List UInt8) (h : Hp) : Ct Tryz.prog 54 [Str l, Str p] h (fun _ v => v = .tuple #[Str (Lib.trimPrefix l p), .bool (Lib.hasPrefix l p)]) :=
  Ct.lib fun w hw => Calls.mono (Any.strings_CutPrefix Tryz.lays103 ⟨l.toArray⟩ ⟨p.toArray⟩ w) fun e w' hh => by
    obtain ⟨h1, h2⟩ := hh
    subst h2
    exact ⟨_, h1, rfl, Below.refl _ _⟩
theorem Join_ok (l : List (List UInt8)) (v : Value) (h : Hp) (hr : RdE h v eStr 1 l) (h1 : l ≠ []) (hl : l.length ≤ 1000000) (hj : (Lib.join l [32]).length ≤ 1000000) : Ct Tryz.prog 39 [v, Str [32]] h (fun _ r => r = Str (Lib.join l [32])) := by
  obtain ⟨g1, a, cap, rfl, g3, g4⟩ := hr
  rcases g4 with g4 | ⟨b, o, rfl, hp⟩
  · exact absurd (List.eq_nil_of_length_eq_zero g4) h1
  refine Ct.lib fun w hw => ?_
  have hmap : (l.map fun s => (⟨s.toArray⟩ : ByteArray)).map (·.data.toList) = l := by
    rw [List.map_map]
    have : ((fun x : ByteArray => x.data.toList) ∘ fun s : List UInt8 => (⟨s.toArray⟩ : ByteArray)) = id := rfl
    rw [this, List.map_id]
  have hcell : ∀ (j : Nat) x, (l.map fun s => (⟨s.toArray⟩ : ByteArray))[j]? = some x → w.cell? ⟨b, o + j, none⟩ = some (.string x) := by
    intro j x hx
    rw [List.getElem?_map] at hx
    cases hlj : l[j]? with
    | none => rw [hlj] at hx; cases hx
    | some s =>
      rw [hlj] at hx
      cases hx
      obtain ⟨hj', hjs⟩ := List.getElem?_eq_some_iff.1 hlj
      refine hcell_cell hw (hp j _ ?_)
      have hc := fl_chunk (enc := eStr) l j hj'
      have := chunk_get (xs := fl eStr l) (sz := 1) (i := j) (j := 0) (v := Str l[j]) (by rw [hc]; rfl)
      rw [Nat.mul_one, Nat.add_zero] at this
      rw [this, hjs]
  have hbk : b < w.heap.size := by
    have h0 : 0 < l.length := by
      cases l with
      | nil => exact absurd rfl h1
      | cons a r => simp
    have := hcell 0 ⟨(l[0]).toArray⟩ (by simp [h0])
    unfold World.cell? at this
    rcases Nat.lt_or_ge b w.heap.size with hh | hh
    · exact hh
    · simp [Array.getElem?_eq_none hh] at this
  have hN : (l.map fun s => (⟨s.toArray⟩ : ByteArray)).length = l.length := List.length_map ..
  have := Any.strings_Join Tryz.lays156 Tryz.Builder_Extra_156 b o cap (l.map fun s => (⟨s.toArray⟩ : ByteArray)) ⟨#[32]⟩ w hcell hbk (by omega) (by omega) (by rw [hmap]; show (Lib.join l [32]).length ≤ _; omega)
  rw [hN, hmap] at this
  refine Calls.mono this fun e w' hh => ?_
  exact ⟨_, hh.1, rfl, hh.2⟩
theorem str_eq' (s : ByteArray) : Value.string s = Str s.data.toList := by
  obtain ⟨⟨l⟩⟩ := s
  rfl
theorem Split_ok (l : List UInt8) (h : Hp) (hE : Env h) (hl : l.length < 4294967281) : Ct Tryz.prog 41 [Str l, Str [32]] h (fun h' v => RdE h' v eStr 1 (spl l)) := by
  obtain ⟨m, hm⟩ := hE.mx
  refine Ct.alloc fun w hw => ?_
  have := Any.strings_Split Tryz.lays146 (by kernel_rfl) ⟨l.toArray⟩ ⟨#[32]⟩ m w (by simpa [ByteArray.size] using hl) (hm w hw) (by decide)
  have hall := Lib.splitB_all ⟨#[32]⟩ (by decide) 0 _ ⟨l.toArray⟩ rfl
  have hdata := Lib.splitB_data ⟨#[32]⟩ 0 (Lib.countB ⟨l.toArray⟩ ⟨#[32]⟩) ⟨l.toArray⟩
  have hcount : Lib.countB ⟨l.toArray⟩ ⟨#[32]⟩ = Lib.count l [32] := rfl
  have hspl : (Lib.splitB ⟨#[32]⟩ 0 (Lib.countB ⟨l.toArray⟩ ⟨#[32]⟩) ⟨l.toArray⟩).map (·.data.toList) = spl l := by
    rw [hdata, hcount]
    exact split_spl l
  refine Calls.mono this fun e w' hh => ?_
  obtain ⟨e1, e2⟩ := hh
  refine ⟨_, _, e1, e2, fun h' hb => ?_⟩
  generalize Lib.splitB ⟨#[32]⟩ 0 (Lib.countB ⟨l.toArray⟩ ⟨#[32]⟩) ⟨l.toArray⟩ = bs at *
  generalize Lib.countB ⟨l.toArray⟩ ⟨#[32]⟩ = c at *
  have hlen : (spl l).length = c + 1 := by rw [← hspl, List.length_map, hall]
  refine ⟨fl_len _, _, c + 1, by rw [hlen], by omega, .inr ⟨w.heap.size, 0, rfl, ?_⟩⟩
  intro j u hj
  unfold hcell
  rw [hb]
  simp only [Nat.zero_add, List.getElem?_toArray]
  have hcs : bs.map Value.string = fl eStr (spl l) := by
    rw [← hspl]
    clear hspl hdata hall this hj e1 e2 hb hlen
    induction bs with
    | nil => rfl
    | cons a r ih =>
      rw [List.map_cons, List.map_cons, fl_cons, ← ih]
      show Value.string a :: _ = _
      rw [str_eq' a]
      rfl
  rw [hcs]
  exact hj
end Go.Proofs.YtlljhipmnkdpeaaGreatDoor
end

section
set_option linter.unusedVariables false
set_option maxHeartbeats 4000000
namespace Go.Proofs.YtlljhipmnkdpeaaGreatDoor
open Go Go.Sk Go.Pr Go.RowKit
theorem itoa_digit (n : Int) (h : 0 ≤ n ∧ n ≤ 9) : Lib.itoa n = [digit n] := by
  obtain ⟨k, rfl⟩ := Int.eq_ofNat_of_zero_le h.1
  rw [Lib.itoa_nonneg, Lib.decDigits_one (by omega)]
  rfl
theorem u8digit (n : Int) (h : 0 ≤ n ∧ n ≤ 9) : IntKind.u8.wrap (48 + n) = ((digit n).toNat : Int) := by
  have h1 : ((2 : Int) ^ IntKind.u8.bits) = 256 := by decide
  unfold IntKind.wrap digit
  rw [h1]
  have h2 : IntKind.u8.signed = false := rfl
  simp only [h2, Bool.false_and, Bool.false_eq_true, if_false]
  rw [UInt8.toNat_ofNat']
  omega
theorem num_mid (op : Int) (h : 1 ≤ op ∧ op ≤ 10) : num op = 0 ↔ (3 ≤ op ∧ op ≤ 6) := by
  rcases op_cases h with h | h | h | h | h | h | h | h | h | h <;> subst h <;> decide
def namesL : List (List UInt8) := [[], [103, 111], [115, 108, 105, 100, 101], [101, 109, 112, 116, 121], [101, 110, 101, 109, 121], [102, 114, 105, 101, 110, 100], [116, 97, 107, 101], [112, 117, 115, 104], [98, 101, 99, 111, 109, 101], [110, 101, 101, 100], [108, 111, 115, 101]]
theorem names_at (op : Int) (h : 0 ≤ op ∧ op ≤ 10) : namesL[op.toNat]? = some (word op) := by
  have h1 : op = 0 ∨ op = 1 ∨ op = 2 ∨ op = 3 ∨ op = 4 ∨ op = 5 ∨ op = 6 ∨ op = 7 ∨ op = 8 ∨ op = 9 ∨ op = 10 := by omega
  rcases h1 with rfl | rfl | rfl | rfl | rfl | rfl | rfl | rfl | rfl | rfl | rfl <;> rfl
theorem word_ok (s : Stp) (h : Hp) (h1 : 1 ≤ s.1 ∧ s.1 ≤ 10) (h2 : 0 ≤ s.2 ∧ s.2 ≤ 9) : Ct Tryz.prog 40 [Sv s] h (fun _ v => v = Str (wtext s)) := by
  refine ct40 ?_
  intro w0
  unfold s40
  have hnm := num_mid s.1 h1
  have hat := names_at s.1 (by omega)
  obtain ⟨k, hk⟩ := Int.eq_ofNat_of_zero_le (show 0 ≤ s.1 by omega)
  rw [hk, Int.toNat_natCast] at hat
  obtain ⟨hkl, hat⟩ := List.getElem?_eq_some_iff.1 hat
  have hwl := word_len s.1
  (repeat (first | refine G.add (by omega) ?_ | refine G.sub (by omega) ?_ | refine G.mul (by omega) ?_ | refine G.neg (by omega) ?_ | refine G.quo (by omega) (by omega) ?_ | refine G.rem (by omega) ?_ | refine G.shr (by omega) ?_ | refine G.conv (by omega) ?_ | refine G.step ?_ | refine G.buildA (by rfl) ?_ | (refine Gs.box ?_; intro _) | (refine Gs.alloc ?_; intro _) | refine Gs.store ?_ | refine G.retc ?_ | refine Gs.dr ?_ | refine G.qadd (by omega) ?_ | refine G.qsub (by omega) ?_ | refine G.qmul (by omega) ?_ | refine G.qneg (by omega) ?_ | refine G.qkp ?_ | refine Gs.qkb ?_ | refine G.withT ?_ | refine Gs.withb ?_ | refine G.ift ?_ | refine G.iff ?_ | refine G.gdtt ?_ | refine G.gdff ?_ | refine G.gdtf ?_ | refine G.gdft ?_ | (refine G.jk ?_; intro _)))
  refine Gs.buildSlice (by decide) ?_
  intro b
  refine Gs.freezeE (v := .slice (some ⟨b, 0, none⟩) 11 11) (enc := eStr) (l := namesL) (by decide) ?_
  intro h' hle hr
  refine G.jnP (fun a => a = .bool (decide (3 ≤ s.1 ∧ s.1 ≤ 6))) ?_ ?_
  · rintro a rfl
    (repeat (first | refine G.add (by omega) ?_ | refine G.sub (by omega) ?_ | refine G.mul (by omega) ?_ | refine G.neg (by omega) ?_ | refine G.quo (by omega) (by omega) ?_ | refine G.rem (by omega) ?_ | refine G.shr (by omega) ?_ | refine G.conv (by omega) ?_ | refine G.step ?_ | refine G.buildA (by rfl) ?_ | (refine Gs.box ?_; intro _) | (refine Gs.alloc ?_; intro _) | refine Gs.store ?_ | refine G.retc ?_ | refine Gs.dr ?_ | refine G.qadd (by omega) ?_ | refine G.qsub (by omega) ?_ | refine G.qmul (by omega) ?_ | refine G.qneg (by omega) ?_ | refine G.qkp ?_ | refine Gs.qkb ?_ | refine G.withT ?_ | refine Gs.withb ?_ | refine G.ift ?_ | refine G.iff ?_ | refine G.gdtt ?_ | refine G.gdff ?_ | refine G.gdtf ?_ | refine G.gdft ?_ | (refine G.jk ?_; intro _)))
    refine G.ifd ?_ ?_ <;> intro hm
    · (repeat (first | refine G.add (by omega) ?_ | refine G.sub (by omega) ?_ | refine G.mul (by omega) ?_ | refine G.neg (by omega) ?_ | refine G.quo (by omega) (by omega) ?_ | refine G.rem (by omega) ?_ | refine G.shr (by omega) ?_ | refine G.conv (by omega) ?_ | refine G.step ?_ | refine G.buildA (by rfl) ?_ | (refine Gs.box ?_; intro _) | (refine Gs.alloc ?_; intro _) | refine Gs.store ?_ | refine G.retc ?_ | refine Gs.dr ?_ | refine G.qadd (by omega) ?_ | refine G.qsub (by omega) ?_ | refine G.qmul (by omega) ?_ | refine G.qneg (by omega) ?_ | refine G.qkp ?_ | refine Gs.qkb ?_ | refine G.withT ?_ | refine Gs.withb ?_ | refine G.ift ?_ | refine G.iff ?_ | refine G.gdtt ?_ | refine G.gdff ?_ | refine G.gdtf ?_ | refine G.gdft ?_ | (refine G.jk ?_; intro _)))
      rw [hk]
      refine Gs.indexE hr hkl ?_
      intro b1 o1 hp
      rw [hat] at hp
      refine Gs.loadP1 hp ?_
      refine Gs.ret ?_
      unfold wtext
      rw [if_pos (hnm.2 hm), List.append_nil, hk]
    · (repeat (first | refine G.add (by omega) ?_ | refine G.sub (by omega) ?_ | refine G.mul (by omega) ?_ | refine G.neg (by omega) ?_ | refine G.quo (by omega) (by omega) ?_ | refine G.rem (by omega) ?_ | refine G.shr (by omega) ?_ | refine G.conv (by omega) ?_ | refine G.step ?_ | refine G.buildA (by rfl) ?_ | (refine Gs.box ?_; intro _) | (refine Gs.alloc ?_; intro _) | refine Gs.store ?_ | refine G.retc ?_ | refine Gs.dr ?_ | refine G.qadd (by omega) ?_ | refine G.qsub (by omega) ?_ | refine G.qmul (by omega) ?_ | refine G.qneg (by omega) ?_ | refine G.qkp ?_ | refine Gs.qkb ?_ | refine G.withT ?_ | refine Gs.withb ?_ | refine G.ift ?_ | refine G.iff ?_ | refine G.gdtt ?_ | refine G.gdff ?_ | refine G.gdtf ?_ | refine G.gdft ?_ | (refine G.jk ?_; intro _)))
      rw [hk]
      refine Gs.qindexE hr hkl ?_
      intro b1 o1 hp
      rw [hat] at hp
      refine Gs.qloadP1 hp ?_
      (repeat (first | refine G.add (by omega) ?_ | refine G.sub (by omega) ?_ | refine G.mul (by omega) ?_ | refine G.neg (by omega) ?_ | refine G.quo (by omega) (by omega) ?_ | refine G.rem (by omega) ?_ | refine G.shr (by omega) ?_ | refine G.conv (by omega) ?_ | refine G.step ?_ | refine G.buildA (by rfl) ?_ | (refine Gs.box ?_; intro _) | (refine Gs.alloc ?_; intro _) | refine Gs.store ?_ | refine G.retc ?_ | refine Gs.dr ?_ | refine G.qadd (by omega) ?_ | refine G.qsub (by omega) ?_ | refine G.qmul (by omega) ?_ | refine G.qneg (by omega) ?_ | refine G.qkp ?_ | refine Gs.qkb ?_ | refine G.withT ?_ | refine Gs.withb ?_ | refine G.ift ?_ | refine G.iff ?_ | refine G.gdtt ?_ | refine G.gdff ?_ | refine G.gdtf ?_ | refine G.gdft ?_ | (refine G.jk ?_; intro _)))
      rw [u8digit _ h2]
      refine Gs.buildSlice (by decide) ?_
      intro b2
      refine Gs.withf (Hle.refl _) ?_
      (repeat (first | refine G.add (by omega) ?_ | refine G.sub (by omega) ?_ | refine G.mul (by omega) ?_ | refine G.neg (by omega) ?_ | refine G.quo (by omega) (by omega) ?_ | refine G.rem (by omega) ?_ | refine G.shr (by omega) ?_ | refine G.conv (by omega) ?_ | refine G.step ?_ | refine G.buildA (by rfl) ?_ | (refine Gs.box ?_; intro _) | (refine Gs.alloc ?_; intro _) | refine Gs.store ?_ | refine G.retc ?_ | refine Gs.dr ?_ | refine G.qadd (by omega) ?_ | refine G.qsub (by omega) ?_ | refine G.qmul (by omega) ?_ | refine G.qneg (by omega) ?_ | refine G.qkp ?_ | refine Gs.qkb ?_ | refine G.withT ?_ | refine Gs.withb ?_ | refine G.ift ?_ | refine G.iff ?_ | refine G.gdtt ?_ | refine G.gdff ?_ | refine G.gdtf ?_ | refine G.gdft ?_ | (refine G.jk ?_; intro _)))
      refine Gs.sbytes (l := [digit s.2]) rfl ?_
      refine Gs.withf (Hle.refl _) ?_
      (repeat (first | refine G.add (by omega) ?_ | refine G.sub (by omega) ?_ | refine G.mul (by omega) ?_ | refine G.neg (by omega) ?_ | refine G.quo (by omega) (by omega) ?_ | refine G.rem (by omega) ?_ | refine G.shr (by omega) ?_ | refine G.conv (by omega) ?_ | refine G.step ?_ | refine G.buildA (by rfl) ?_ | (refine Gs.box ?_; intro _) | (refine Gs.alloc ?_; intro _) | refine Gs.store ?_ | refine G.retc ?_ | refine Gs.dr ?_ | refine G.qadd (by omega) ?_ | refine G.qsub (by omega) ?_ | refine G.qmul (by omega) ?_ | refine G.qneg (by omega) ?_ | refine G.qkp ?_ | refine Gs.qkb ?_ | refine G.withT ?_ | refine Gs.withb ?_ | refine G.ift ?_ | refine G.iff ?_ | refine G.gdtt ?_ | refine G.gdff ?_ | refine G.gdtf ?_ | refine G.gdft ?_ | (refine G.jk ?_; intro _)))
      refine G.qsadd ⟨by rw [← hk]; omega, by simp⟩ ?_
      refine Gs.ret ?_
      unfold wtext
      rw [if_neg (fun e => hm (hnm.1 e)), hk]
  · intro K hK
    ((repeat (first | refine G.add (by omega) ?_ | refine G.sub (by omega) ?_ | refine G.mul (by omega) ?_ | refine G.neg (by omega) ?_ | refine G.quo (by omega) (by omega) ?_ | refine G.rem (by omega) ?_ | refine G.shr (by omega) ?_ | refine G.conv (by omega) ?_ | refine G.step ?_ | refine G.buildA (by rfl) ?_ | (refine Gs.box ?_; intro _) | (refine Gs.alloc ?_; intro _) | refine Gs.store ?_ | refine G.retc ?_ | refine Gs.dr ?_ | refine G.qadd (by omega) ?_ | refine G.qsub (by omega) ?_ | refine G.qmul (by omega) ?_ | refine G.qneg (by omega) ?_ | refine G.qkp ?_ | refine Gs.qkb ?_ | refine G.withT ?_ | refine Gs.withb ?_ | refine G.ift ?_ | refine G.iff ?_ | refine G.gdtt ?_ | refine G.gdff ?_ | refine G.gdtf ?_ | refine G.gdft ?_ | refine G.jn ?_ | (refine G.jk ?_; intro _))); repeat (any_goals ((first | (refine G.ifd ?_ ?_ <;> intro _) | (refine G.ifb ?_ ?_ <;> intro _) | (refine G.gddt ?_ ?_ <;> intro _) | (refine G.gddf ?_ ?_ <;> intro _) | (refine G.gdbt ?_ ?_ <;> intro _) | (refine G.gdbf ?_ ?_ <;> intro _)) <;> (try (exfalso; omega; done)) <;> (repeat (first | refine G.add (by omega) ?_ | refine G.sub (by omega) ?_ | refine G.mul (by omega) ?_ | refine G.neg (by omega) ?_ | refine G.quo (by omega) (by omega) ?_ | refine G.rem (by omega) ?_ | refine G.shr (by omega) ?_ | refine G.conv (by omega) ?_ | refine G.step ?_ | refine G.buildA (by rfl) ?_ | (refine Gs.box ?_; intro _) | (refine Gs.alloc ?_; intro _) | refine Gs.store ?_ | refine G.retc ?_ | refine Gs.dr ?_ | refine G.qadd (by omega) ?_ | refine G.qsub (by omega) ?_ | refine G.qmul (by omega) ?_ | refine G.qneg (by omega) ?_ | refine G.qkp ?_ | refine Gs.qkb ?_ | refine G.withT ?_ | refine Gs.withb ?_ | refine G.ift ?_ | refine G.iff ?_ | refine G.gdtt ?_ | refine G.gdff ?_ | refine G.gdtf ?_ | refine G.gdft ?_ | refine G.jn ?_ | (refine G.jk ?_; intro _))))))
    · exact hK _ (by congr 1; rw [decide_eq_decide]; omega)
    · exact hK _ (by congr 1; symm; rw [decide_eq_false_iff_not]; omega)
theorem join_take (l : List Stp) (s : Stp) (r : List Stp) (i : Nat) (hl : l = s :: r) (hi : 1 ≤ i) (hlt : i < l.length) :
    Lib.join ((l.take (i + 1)).map wtext) [32] = Lib.join ((l.take i).map wtext) [32] ++ ([32] ++ wtext l[i]) := by
  subst hl
  obtain ⟨j, rfl⟩ : ∃ j, i = j + 1 := ⟨i - 1, by omega⟩
  have hj : j < r.length := by simpa using hlt
  rw [List.take_succ_cons, List.take_succ_cons, List.map_cons, List.map_cons, Lib.join_cons, Lib.join_cons, List.map_take, List.map_take, Lib.joinTail_take_succ [32] (r.map wtext) j (wtext r[j]) (by simp [hj])]
  simp [List.append_assoc]
theorem join_len (l : List Stp) (hs : ∀ s ∈ l, s ∈ stepsL) (i : Nat) : (Lib.join ((l.take i).map wtext) [32]).length ≤ 8 * l.length := by
  have key : ∀ (r : List Stp), (∀ s ∈ r, s ∈ stepsL) → Lib.lens (r.map wtext) ≤ 7 * r.length := by
    intro r
    induction r with
    | nil => intro _; decide
    | cons a r ih =>
      intro h
      have h4 := (wtext_len a (h a (by simp))).1
      have h5 := ih (fun x hx => h x (by simp [hx]))
      simp only [Lib.lens, List.map_cons, List.sum_cons, List.length_cons] at *
      omega
  cases hl : l.take i with
  | nil => simp [Lib.join_nil]
  | cons a r =>
    have hk := key (a :: r) (fun s hs' => hs s (List.mem_of_mem_take (by rw [hl]; exact hs')))
    have hlen : (a :: r).length ≤ l.length := by rw [← hl, List.length_take]; omega
    rw [List.map_cons, Lib.join_length, ← List.map_cons]
    simp only [List.length_map, List.length_cons, List.length_nil] at *
    omega
theorem rprint_ok (l : List Stp) (v : Value) (h : Hp) (hr : RdE h v encP 2 l) (hl : l.length ≤ 1000000) : Ct Tryz.prog 21 [v] h (fun _ x => x = Str (printP l)) := by
  refine ct21 ?_
  intro w0
  unfold s21
  refine Gs.callv0 (rvalid_ok l v 8 6 4 h hr hl) ?_
  cases hv : validB l 8 6 4
  · (repeat (first | refine G.add (by omega) ?_ | refine G.sub (by omega) ?_ | refine G.mul (by omega) ?_ | refine G.neg (by omega) ?_ | refine G.quo (by omega) (by omega) ?_ | refine G.rem (by omega) ?_ | refine G.shr (by omega) ?_ | refine G.conv (by omega) ?_ | refine G.step ?_ | refine G.buildA (by rfl) ?_ | (refine Gs.box ?_; intro _) | (refine Gs.alloc ?_; intro _) | refine Gs.store ?_ | refine G.retc ?_ | refine Gs.dr ?_ | refine G.qadd (by omega) ?_ | refine G.qsub (by omega) ?_ | refine G.qmul (by omega) ?_ | refine G.qneg (by omega) ?_ | refine G.qkp ?_ | refine Gs.qkb ?_ | refine G.withT ?_ | refine Gs.withb ?_ | refine G.ift ?_ | refine G.iff ?_ | refine G.gdtt ?_ | refine G.gdff ?_ | refine G.gdtf ?_ | refine G.gdft ?_ | (refine G.jk ?_; intro _)))
    exact Gs.ret (by unfold printP; rw [hv]; rfl)
  obtain ⟨p1, p2, p3⟩ := valid_parts hv
  have hb : ∀ (i : Nat) (hi : i < l.length), 1 ≤ l[i].1 ∧ l[i].1 ≤ 10 ∧ 0 ≤ l[i].2 ∧ l[i].2 ≤ 7 := fun i hi => step_bd ((mem_steps _).1 (p3 _ (List.getElem_mem hi)))
  have hP : printP l = Lib.join (l.map wtext) [32] := by unfold printP; rw [if_pos hv]
  obtain ⟨s, r, hsr⟩ : ∃ s r, l = s :: r := by
    cases l with
    | nil => simp at p1
    | cons s r => exact ⟨s, r, rfl⟩
  (repeat (first | refine G.add (by omega) ?_ | refine G.sub (by omega) ?_ | refine G.mul (by omega) ?_ | refine G.neg (by omega) ?_ | refine G.quo (by omega) (by omega) ?_ | refine G.rem (by omega) ?_ | refine G.shr (by omega) ?_ | refine G.conv (by omega) ?_ | refine G.step ?_ | refine G.buildA (by rfl) ?_ | (refine Gs.box ?_; intro _) | (refine Gs.alloc ?_; intro _) | refine Gs.store ?_ | refine G.retc ?_ | refine Gs.dr ?_ | refine G.qadd (by omega) ?_ | refine G.qsub (by omega) ?_ | refine G.qmul (by omega) ?_ | refine G.qneg (by omega) ?_ | refine G.qkp ?_ | refine Gs.qkb ?_ | refine G.withT ?_ | refine Gs.withb ?_ | refine G.ift ?_ | refine G.iff ?_ | refine G.gdtt ?_ | refine G.gdff ?_ | refine G.gdtf ?_ | refine G.gdft ?_ | (refine G.jk ?_; intro _)))
  refine Gs.indexE (i := 0) hr p1 ?_
  intro b o hp
  refine Gs.loadPN hp rfl ?_
  have h0 := hb 0 p1
  refine Gs.callv0 (word_ok l[0] h (by omega) (by omega)) ?_
  refine Gs.lp (β := Nat) (fun i => (Str (Lib.join ((l.take i).map wtext) [32]), I i)) (fun _ => h) (fun _ => []) (fun i => 1 ≤ i ∧ i ≤ l.length) (fun i => l.length - i) 1 ?_ ⟨by omega, by omega⟩ (fun _ h => h) ?_
  · subst hsr
    simp [Lib.join_one]
  rintro i ⟨hi1, hi⟩ cont hc
  have hjl := join_len l p3 i
  (repeat (first | refine G.add (by omega) ?_ | refine G.sub (by omega) ?_ | refine G.mul (by omega) ?_ | refine G.neg (by omega) ?_ | refine G.quo (by omega) (by omega) ?_ | refine G.rem (by omega) ?_ | refine G.shr (by omega) ?_ | refine G.conv (by omega) ?_ | refine G.step ?_ | refine G.buildA (by rfl) ?_ | (refine Gs.box ?_; intro _) | (refine Gs.alloc ?_; intro _) | refine Gs.store ?_ | refine G.retc ?_ | refine Gs.dr ?_ | refine G.qadd (by omega) ?_ | refine G.qsub (by omega) ?_ | refine G.qmul (by omega) ?_ | refine G.qneg (by omega) ?_ | refine G.qkp ?_ | refine Gs.qkb ?_ | refine G.withT ?_ | refine Gs.withb ?_ | refine G.ift ?_ | refine G.iff ?_ | refine G.gdtt ?_ | refine G.gdff ?_ | refine G.gdtf ?_ | refine G.gdft ?_ | (refine G.jk ?_; intro _)))
  refine Gs.lenE hr (by omega) ?_
  (repeat (first | refine G.add (by omega) ?_ | refine G.sub (by omega) ?_ | refine G.mul (by omega) ?_ | refine G.neg (by omega) ?_ | refine G.quo (by omega) (by omega) ?_ | refine G.rem (by omega) ?_ | refine G.shr (by omega) ?_ | refine G.conv (by omega) ?_ | refine G.step ?_ | refine G.buildA (by rfl) ?_ | (refine Gs.box ?_; intro _) | (refine Gs.alloc ?_; intro _) | refine Gs.store ?_ | refine G.retc ?_ | refine Gs.dr ?_ | refine G.qadd (by omega) ?_ | refine G.qsub (by omega) ?_ | refine G.qmul (by omega) ?_ | refine G.qneg (by omega) ?_ | refine G.qkp ?_ | refine Gs.qkb ?_ | refine G.withT ?_ | refine Gs.withb ?_ | refine G.ift ?_ | refine G.iff ?_ | refine G.gdtt ?_ | refine G.gdff ?_ | refine G.gdtf ?_ | refine G.gdft ?_ | (refine G.jk ?_; intro _)))
  refine G.ifd ?_ ?_ <;> intro hlt
  · have hlt' : i < l.length := by omega
    have hbi := hb i hlt'
    refine Gs.indexE hr hlt' ?_
    intro b1 o1 hp1
    refine Gs.loadPN hp1 rfl ?_
    refine Gs.callv0 (word_ok l[i] h (by omega) (by omega)) ?_
    have hwl := (wtext_len _ (p3 _ (List.getElem_mem hlt'))).1
    refine G.sadd (a := [32]) ⟨by simp, by omega⟩ ?_
    refine G.sadd ⟨by omega, by simp; omega⟩ ?_
    (repeat (first | refine G.add (by omega) ?_ | refine G.sub (by omega) ?_ | refine G.mul (by omega) ?_ | refine G.neg (by omega) ?_ | refine G.quo (by omega) (by omega) ?_ | refine G.rem (by omega) ?_ | refine G.shr (by omega) ?_ | refine G.conv (by omega) ?_ | refine G.step ?_ | refine G.buildA (by rfl) ?_ | (refine Gs.box ?_; intro _) | (refine Gs.alloc ?_; intro _) | refine Gs.store ?_ | refine G.retc ?_ | refine Gs.dr ?_ | refine G.qadd (by omega) ?_ | refine G.qsub (by omega) ?_ | refine G.qmul (by omega) ?_ | refine G.qneg (by omega) ?_ | refine G.qkp ?_ | refine Gs.qkb ?_ | refine G.withT ?_ | refine Gs.withb ?_ | refine G.ift ?_ | refine G.iff ?_ | refine G.gdtt ?_ | refine G.gdff ?_ | refine G.gdtf ?_ | refine G.gdft ?_ | (refine G.jk ?_; intro _)))
    refine Gs.go (hc (i + 1) ⟨by omega, by omega⟩ (by omega)) ?_
    rw [join_take l s r i hsr hi1 hlt']
    rfl
  · refine Gs.ret ?_
    rw [hP, List.take_of_length_le (by omega)]
theorem print_ok (l : List Stp) (v : Value) (h : Hp) (hE : Env h) (hr : RdE h v encP 2 l) (hl : l.length ≤ 1000000) : Ct Tryz.prog 20 [v] h (fun _ x => x = Str (printP l)) := by
  refine ct20 ?_
  intro w0
  unfold s20
  refine Gs.callv0 (valid_ok l v 8 6 4 h hr hl) ?_
  cases hv : validB l 8 6 4
  · (repeat (first | refine G.add (by omega) ?_ | refine G.sub (by omega) ?_ | refine G.mul (by omega) ?_ | refine G.neg (by omega) ?_ | refine G.quo (by omega) (by omega) ?_ | refine G.rem (by omega) ?_ | refine G.shr (by omega) ?_ | refine G.conv (by omega) ?_ | refine G.step ?_ | refine G.buildA (by rfl) ?_ | (refine Gs.box ?_; intro _) | (refine Gs.alloc ?_; intro _) | refine Gs.store ?_ | refine G.retc ?_ | refine Gs.dr ?_ | refine G.qadd (by omega) ?_ | refine G.qsub (by omega) ?_ | refine G.qmul (by omega) ?_ | refine G.qneg (by omega) ?_ | refine G.qkp ?_ | refine Gs.qkb ?_ | refine G.withT ?_ | refine Gs.withb ?_ | refine G.ift ?_ | refine G.iff ?_ | refine G.gdtt ?_ | refine G.gdff ?_ | refine G.gdtf ?_ | refine G.gdft ?_ | (refine G.jk ?_; intro _)))
    exact Gs.ret (by unfold printP; rw [hv]; rfl)
  obtain ⟨p1, p2, p3⟩ := valid_parts hv
  have hb : ∀ (i : Nat) (hi : i < l.length), 1 ≤ l[i].1 ∧ l[i].1 ≤ 10 ∧ 0 ≤ l[i].2 ∧ l[i].2 ≤ 7 := fun i hi => step_bd ((mem_steps _).1 (p3 _ (List.getElem_mem hi)))
  have hP : printP l = Lib.join (l.map wtext) [32] := by unfold printP; rw [if_pos hv]
  (repeat (first | refine G.add (by omega) ?_ | refine G.sub (by omega) ?_ | refine G.mul (by omega) ?_ | refine G.neg (by omega) ?_ | refine G.quo (by omega) (by omega) ?_ | refine G.rem (by omega) ?_ | refine G.shr (by omega) ?_ | refine G.conv (by omega) ?_ | refine G.step ?_ | refine G.buildA (by rfl) ?_ | (refine Gs.box ?_; intro _) | (refine Gs.alloc ?_; intro _) | refine Gs.store ?_ | refine G.retc ?_ | refine Gs.dr ?_ | refine G.qadd (by omega) ?_ | refine G.qsub (by omega) ?_ | refine G.qmul (by omega) ?_ | refine G.qneg (by omega) ?_ | refine G.qkp ?_ | refine Gs.qkb ?_ | refine G.withT ?_ | refine Gs.withb ?_ | refine G.ift ?_ | refine G.iff ?_ | refine G.gdtt ?_ | refine G.gdff ?_ | refine G.gdtf ?_ | refine G.gdft ?_ | (refine G.jk ?_; intro _)))
  refine Gs.lenE hr (by omega) ?_
  refine Gs.nilsl 9 1 ?_
  refine Gs.lp (β := Nat × Value) (fun b => (b.2, I b.1)) (fun _ => h) (fun b => [.sl b.2 9 1 (fl eStr ((l.take b.1).map wtext))]) (fun b => b.1 ≤ l.length) (fun b => l.length - b.1) (0, .slice none 0 0) rfl (Nat.zero_le _) (fun _ h => h) ?_
  rintro ⟨i, wv⟩ hi cont hc
  dsimp only at *
  (repeat (first | refine G.add (by omega) ?_ | refine G.sub (by omega) ?_ | refine G.mul (by omega) ?_ | refine G.neg (by omega) ?_ | refine G.quo (by omega) (by omega) ?_ | refine G.rem (by omega) ?_ | refine G.shr (by omega) ?_ | refine G.conv (by omega) ?_ | refine G.step ?_ | refine G.buildA (by rfl) ?_ | (refine Gs.box ?_; intro _) | (refine Gs.alloc ?_; intro _) | refine Gs.store ?_ | refine G.retc ?_ | refine Gs.dr ?_ | refine G.qadd (by omega) ?_ | refine G.qsub (by omega) ?_ | refine G.qmul (by omega) ?_ | refine G.qneg (by omega) ?_ | refine G.qkp ?_ | refine Gs.qkb ?_ | refine G.withT ?_ | refine Gs.withb ?_ | refine G.ift ?_ | refine G.iff ?_ | refine G.gdtt ?_ | refine G.gdff ?_ | refine G.gdtf ?_ | refine G.gdft ?_ | (refine G.jk ?_; intro _)))
  refine G.ifd ?_ ?_ <;> intro hlt
  · have hlt' : i < l.length := by omega
    have hbi := hb i hlt'
    have hwl := word_len l[i].1
    have hnm := num_mid l[i].1 (by omega)
    have hok : okOp l[i].1 = true := decide_eq_true (by omega)
    refine Gs.indexE hr hlt' ?_
    intro b1 o1 hp1
    refine Gs.loadPN hp1 rfl ?_
    (repeat (first | refine G.add (by omega) ?_ | refine G.sub (by omega) ?_ | refine G.mul (by omega) ?_ | refine G.neg (by omega) ?_ | refine G.quo (by omega) (by omega) ?_ | refine G.rem (by omega) ?_ | refine G.shr (by omega) ?_ | refine G.conv (by omega) ?_ | refine G.step ?_ | refine G.buildA (by rfl) ?_ | (refine Gs.box ?_; intro _) | (refine Gs.alloc ?_; intro _) | refine Gs.store ?_ | refine G.retc ?_ | refine Gs.dr ?_ | refine G.qadd (by omega) ?_ | refine G.qsub (by omega) ?_ | refine G.qmul (by omega) ?_ | refine G.qneg (by omega) ?_ | refine G.qkp ?_ | refine Gs.qkb ?_ | refine G.withT ?_ | refine Gs.withb ?_ | refine G.ift ?_ | refine G.iff ?_ | refine G.gdtt ?_ | refine G.gdff ?_ | refine G.gdtf ?_ | refine G.gdft ?_ | (refine G.jk ?_; intro _)))
    refine Gs.callv0 (find_ok l[i].1 h) ?_
    (repeat (first | refine G.add (by omega) ?_ | refine G.sub (by omega) ?_ | refine G.mul (by omega) ?_ | refine G.neg (by omega) ?_ | refine G.quo (by omega) (by omega) ?_ | refine G.rem (by omega) ?_ | refine G.shr (by omega) ?_ | refine G.conv (by omega) ?_ | refine G.step ?_ | refine G.buildA (by rfl) ?_ | (refine Gs.box ?_; intro _) | (refine Gs.alloc ?_; intro _) | refine Gs.store ?_ | refine G.retc ?_ | refine Gs.dr ?_ | refine G.qadd (by omega) ?_ | refine G.qsub (by omega) ?_ | refine G.qmul (by omega) ?_ | refine G.qneg (by omega) ?_ | refine G.qkp ?_ | refine Gs.qkb ?_ | refine G.withT ?_ | refine Gs.withb ?_ | refine G.ift ?_ | refine G.iff ?_ | refine G.gdtt ?_ | refine G.gdff ?_ | refine G.gdtf ?_ | refine G.gdft ?_ | (refine G.jk ?_; intro _)))
    refine G.jnP (fun a => a = Str (wtext l[i])) ?_ ?_
    · rintro a rfl
      (repeat (first | refine G.add (by omega) ?_ | refine G.sub (by omega) ?_ | refine G.mul (by omega) ?_ | refine G.neg (by omega) ?_ | refine G.quo (by omega) (by omega) ?_ | refine G.rem (by omega) ?_ | refine G.shr (by omega) ?_ | refine G.conv (by omega) ?_ | refine G.step ?_ | refine G.buildA (by rfl) ?_ | (refine Gs.box ?_; intro _) | (refine Gs.alloc ?_; intro _) | refine Gs.store ?_ | refine G.retc ?_ | refine Gs.dr ?_ | refine G.qadd (by omega) ?_ | refine G.qsub (by omega) ?_ | refine G.qmul (by omega) ?_ | refine G.qneg (by omega) ?_ | refine G.qkp ?_ | refine Gs.qkb ?_ | refine G.withT ?_ | refine Gs.withb ?_ | refine G.ift ?_ | refine G.iff ?_ | refine G.gdtt ?_ | refine G.gdff ?_ | refine G.gdtf ?_ | refine G.gdft ?_ | (refine G.jk ?_; intro _)))
      refine Gs.buildSlice (by decide) ?_
      intro b2
      refine Gs.appendO (enc := eStr) (l := (l.take i).map wtext) (m := [wtext l[i]]) (x := .slice (some ⟨b2, 0, none⟩) 1 1) (e2 := 9) (by simp [fl]) (by simp; omega) (by simp; omega) ?_
      intro v'
      (repeat (first | refine G.add (by omega) ?_ | refine G.sub (by omega) ?_ | refine G.mul (by omega) ?_ | refine G.neg (by omega) ?_ | refine G.quo (by omega) (by omega) ?_ | refine G.rem (by omega) ?_ | refine G.shr (by omega) ?_ | refine G.conv (by omega) ?_ | refine G.step ?_ | refine G.buildA (by rfl) ?_ | (refine Gs.box ?_; intro _) | (refine Gs.alloc ?_; intro _) | refine Gs.store ?_ | refine G.retc ?_ | refine Gs.dr ?_ | refine G.qadd (by omega) ?_ | refine G.qsub (by omega) ?_ | refine G.qmul (by omega) ?_ | refine G.qneg (by omega) ?_ | refine G.qkp ?_ | refine Gs.qkb ?_ | refine G.withT ?_ | refine Gs.withb ?_ | refine G.ift ?_ | refine G.iff ?_ | refine G.gdtt ?_ | refine G.gdff ?_ | refine G.gdtf ?_ | refine G.gdft ?_ | (refine G.jk ?_; intro _)))
      refine Gs.goS (hc (i + 1, v') (by dsimp only; omega) (by dsimp only; omega)) ?_ (hs := ?_)
      · rfl
      · dsimp only
        rw [List.take_succ_eq_append_getElem hlt', List.map_append, List.map_cons, List.map_nil]
        infer_instance
    · intro K hK
      (repeat (first | refine G.add (by omega) ?_ | refine G.sub (by omega) ?_ | refine G.mul (by omega) ?_ | refine G.neg (by omega) ?_ | refine G.quo (by omega) (by omega) ?_ | refine G.rem (by omega) ?_ | refine G.shr (by omega) ?_ | refine G.conv (by omega) ?_ | refine G.step ?_ | refine G.buildA (by rfl) ?_ | (refine Gs.box ?_; intro _) | (refine Gs.alloc ?_; intro _) | refine Gs.store ?_ | refine G.retc ?_ | refine Gs.dr ?_ | refine G.qadd (by omega) ?_ | refine G.qsub (by omega) ?_ | refine G.qmul (by omega) ?_ | refine G.qneg (by omega) ?_ | refine G.qkp ?_ | refine Gs.qkb ?_ | refine G.withT ?_ | refine Gs.withb ?_ | refine G.ift ?_ | refine G.iff ?_ | refine G.gdtt ?_ | refine G.gdff ?_ | refine G.gdtf ?_ | refine G.gdft ?_ | (refine G.jk ?_; intro _)))
      refine G.ifd ?_ ?_ <;> intro hn
      · (repeat (first | refine G.add (by omega) ?_ | refine G.sub (by omega) ?_ | refine G.mul (by omega) ?_ | refine G.neg (by omega) ?_ | refine G.quo (by omega) (by omega) ?_ | refine G.rem (by omega) ?_ | refine G.shr (by omega) ?_ | refine G.conv (by omega) ?_ | refine G.step ?_ | refine G.buildA (by rfl) ?_ | (refine Gs.box ?_; intro _) | (refine Gs.alloc ?_; intro _) | refine Gs.store ?_ | refine G.retc ?_ | refine Gs.dr ?_ | refine G.qadd (by omega) ?_ | refine G.qsub (by omega) ?_ | refine G.qmul (by omega) ?_ | refine G.qneg (by omega) ?_ | refine G.qkp ?_ | refine Gs.qkb ?_ | refine G.withT ?_ | refine Gs.withb ?_ | refine G.ift ?_ | refine G.iff ?_ | refine G.gdtt ?_ | refine G.gdff ?_ | refine G.gdtf ?_ | refine G.gdft ?_ | (refine G.jk ?_; intro _)))
        refine Gs.callv0 (Itoa_ok l[i].2 h (by omega) (by omega) hE) ?_
        rw [itoa_digit _ (by omega)]
        refine G.sadd ⟨by omega, by simp⟩ ?_
        exact hK _ (by unfold wtext; rw [if_neg hn])
      · exact hK _ (by unfold wtext; rw [if_pos (by omega), List.append_nil])
  · have hil : i = l.length := by omega
    subst hil
    rw [List.take_of_length_le (Nat.le_refl _)]
    refine Gs.freezeE (v := wv) (enc := eStr) (by decide) ?_
    intro h' hle hr'
    have hjl := join_len l p3 l.length
    rw [List.take_of_length_le (Nat.le_refl _)] at hjl
    refine Gs.callv0 (Join_ok (l.map wtext) wv h' hr' (by intro e; rw [List.map_eq_nil_iff] at e; rw [e] at p1; simp at p1) (by rw [List.length_map]; omega) (by omega)) ?_
    exact Gs.ret (by rw [hP])
end Go.Proofs.YtlljhipmnkdpeaaGreatDoor
end

section
set_option linter.unusedVariables false
set_option maxHeartbeats 4000000
namespace Go.Proofs.YtlljhipmnkdpeaaGreatDoor
open Go Go.Sk Go.Pr Go.RowKit
def rowP (op n : Nat) : List Stp := (List.range n).map fun k : Nat => (((op : Nat) : Int) + 1, (k : Int))
def doneP (op n : Nat) : List Stp := (((List.range op).flatMap fun o => rowP o 8) ++ rowP op n).filter fun s => stepB s 8 6 4
theorem rowP_succ (op n : Nat) : rowP op (n + 1) = rowP op n ++ [((op : Int) + 1, (n : Int))] := by
  unfold rowP
  rw [List.range_succ, List.map_append]
  rfl
theorem doneP_succ (op n : Nat) : doneP op (n + 1) = doneP op n ++ if stepB ((op : Int) + 1, (n : Int)) 8 6 4 = true then [((op : Int) + 1, (n : Int))] else [] := by
  unfold doneP
  rw [rowP_succ, ← List.append_assoc, List.filter_append]
  congr 1
  simp only [List.filter_cons, List.filter_nil]
theorem doneP_next (op : Nat) : doneP op 8 = doneP (op + 1) 0 := by
  unfold doneP
  rw [List.range_succ, List.flatMap_append]
  simp [rowP]
theorem doneP_all : doneP 10 0 = stepsL := by decide +kernel
theorem doneP_len (op n : Nat) (ho : op ≤ 10) (hn : n ≤ 8) : (doneP op n).length ≤ 100 := by
  unfold doneP
  refine Nat.le_trans (List.length_filter_le _ _) ?_
  have : ∀ op, ((List.range op).flatMap fun o => rowP o 8).length = op * 8 := by
    intro op
    induction op with
    | zero => rfl
    | succ k ih => rw [List.range_succ, List.flatMap_append, List.length_append, ih]; simp [rowP]; omega
  rw [List.length_append, this]
  simp [rowP]
  omega
theorem Steps_ok (h : Hp) : Ct Tryz.prog 22 [] h (fun h' v => RdE h' v encP 2 stepsL) := by
  refine ct22 ?_
  intro w0
  unfold s22
  refine Gs.buildSlice (by decide) ?_
  intro b
  refine Gs.lp (β := Nat × Value) (fun b => (b.2, I ((b.1 : Int) + 1))) (fun _ => h) (fun b => [.sl b.2 41 2 (fl encP (doneP b.1 0))]) (fun b => b.1 ≤ 10) (fun b => 10 - b.1) (0, .slice (some ⟨b, 0, none⟩) 0 0) rfl (Nat.zero_le _) (fun _ h => h) ?_
  rintro ⟨op, v⟩ hop cont hc
  dsimp only at *
  (repeat (first | refine G.add (by omega) ?_ | refine G.sub (by omega) ?_ | refine G.mul (by omega) ?_ | refine G.neg (by omega) ?_ | refine G.quo (by omega) (by omega) ?_ | refine G.rem (by omega) ?_ | refine G.shr (by omega) ?_ | refine G.conv (by omega) ?_ | refine G.step ?_ | refine G.buildA (by rfl) ?_ | (refine Gs.box ?_; intro _) | (refine Gs.alloc ?_; intro _) | refine Gs.store ?_ | refine G.retc ?_ | refine Gs.dr ?_ | refine G.qadd (by omega) ?_ | refine G.qsub (by omega) ?_ | refine G.qmul (by omega) ?_ | refine G.qneg (by omega) ?_ | refine G.qkp ?_ | refine Gs.qkb ?_ | refine G.withT ?_ | refine Gs.withb ?_ | refine G.ift ?_ | refine G.iff ?_ | refine G.gdtt ?_ | refine G.gdff ?_ | refine G.gdtf ?_ | refine G.gdft ?_ | (refine G.jk ?_; intro _)))
  refine G.ifd ?_ ?_ <;> intro hlt
  · refine Gs.lp (β := Nat × Value) (fun b => (b.2, I b.1)) (fun _ => h) (fun b => [.sl b.2 41 2 (fl encP (doneP op b.1))]) (fun b => b.1 ≤ 8) (fun b => 8 - b.1) (0, v) rfl (Nat.zero_le _) (fun _ h => h) ?_
    rintro ⟨n, v⟩ hn cont2 hc2
    dsimp only at *
    (repeat (first | refine G.add (by omega) ?_ | refine G.sub (by omega) ?_ | refine G.mul (by omega) ?_ | refine G.neg (by omega) ?_ | refine G.quo (by omega) (by omega) ?_ | refine G.rem (by omega) ?_ | refine G.shr (by omega) ?_ | refine G.conv (by omega) ?_ | refine G.step ?_ | refine G.buildA (by rfl) ?_ | (refine Gs.box ?_; intro _) | (refine Gs.alloc ?_; intro _) | refine Gs.store ?_ | refine G.retc ?_ | refine Gs.dr ?_ | refine G.qadd (by omega) ?_ | refine G.qsub (by omega) ?_ | refine G.qmul (by omega) ?_ | refine G.qneg (by omega) ?_ | refine G.qkp ?_ | refine Gs.qkb ?_ | refine G.withT ?_ | refine Gs.withb ?_ | refine G.ift ?_ | refine G.iff ?_ | refine G.gdtt ?_ | refine G.gdff ?_ | refine G.gdtf ?_ | refine G.gdft ?_ | (refine G.jk ?_; intro _)))
    refine G.ifd ?_ ?_ <;> intro hlt2
    · have hlen := doneP_len op n (by omega) (by omega)
      have hsucc := doneP_succ op n
      refine G.jn ?_
      (repeat (first | refine G.add (by omega) ?_ | refine G.sub (by omega) ?_ | refine G.mul (by omega) ?_ | refine G.neg (by omega) ?_ | refine G.quo (by omega) (by omega) ?_ | refine G.rem (by omega) ?_ | refine G.shr (by omega) ?_ | refine G.conv (by omega) ?_ | refine G.step ?_ | refine G.buildA (by rfl) ?_ | (refine Gs.box ?_; intro _) | (refine Gs.alloc ?_; intro _) | refine Gs.store ?_ | refine G.retc ?_ | refine Gs.dr ?_ | refine G.qadd (by omega) ?_ | refine G.qsub (by omega) ?_ | refine G.qmul (by omega) ?_ | refine G.qneg (by omega) ?_ | refine G.qkp ?_ | refine Gs.qkb ?_ | refine G.withT ?_ | refine Gs.withb ?_ | refine G.ift ?_ | refine G.iff ?_ | refine G.gdtt ?_ | refine G.gdff ?_ | refine G.gdtf ?_ | refine G.gdft ?_ | (refine G.jk ?_; intro _)))
      refine Gs.callv0 (rstep_ok (((op : Int) + 1, (n : Int)) : Stp) 8 6 4 h) ?_
      cases hs : stepB (((op : Int) + 1, (n : Int)) : Stp) 8 6 4
      · rw [hs, if_neg (by simp), List.append_nil] at hsucc
        (repeat (first | refine G.add (by omega) ?_ | refine G.sub (by omega) ?_ | refine G.mul (by omega) ?_ | refine G.neg (by omega) ?_ | refine G.quo (by omega) (by omega) ?_ | refine G.rem (by omega) ?_ | refine G.shr (by omega) ?_ | refine G.conv (by omega) ?_ | refine G.step ?_ | refine G.buildA (by rfl) ?_ | (refine Gs.box ?_; intro _) | (refine Gs.alloc ?_; intro _) | refine Gs.store ?_ | refine G.retc ?_ | refine Gs.dr ?_ | refine G.qadd (by omega) ?_ | refine G.qsub (by omega) ?_ | refine G.qmul (by omega) ?_ | refine G.qneg (by omega) ?_ | refine G.qkp ?_ | refine Gs.qkb ?_ | refine G.withT ?_ | refine Gs.withb ?_ | refine G.ift ?_ | refine G.iff ?_ | refine G.gdtt ?_ | refine G.gdff ?_ | refine G.gdtf ?_ | refine G.gdft ?_ | (refine G.jk ?_; intro _)))
        refine Gs.goS (hc2 (n + 1, v) (by dsimp only; omega) (by dsimp only; omega)) rfl (hs := ?_)
        dsimp only
        rw [hsucc]
        infer_instance
      · rw [hs, if_pos rfl] at hsucc
        (repeat (first | refine G.add (by omega) ?_ | refine G.sub (by omega) ?_ | refine G.mul (by omega) ?_ | refine G.neg (by omega) ?_ | refine G.quo (by omega) (by omega) ?_ | refine G.rem (by omega) ?_ | refine G.shr (by omega) ?_ | refine G.conv (by omega) ?_ | refine G.step ?_ | refine G.buildA (by rfl) ?_ | (refine Gs.box ?_; intro _) | (refine Gs.alloc ?_; intro _) | refine Gs.store ?_ | refine G.retc ?_ | refine Gs.dr ?_ | refine G.qadd (by omega) ?_ | refine G.qsub (by omega) ?_ | refine G.qmul (by omega) ?_ | refine G.qneg (by omega) ?_ | refine G.qkp ?_ | refine Gs.qkb ?_ | refine G.withT ?_ | refine Gs.withb ?_ | refine G.ift ?_ | refine G.iff ?_ | refine G.gdtt ?_ | refine G.gdff ?_ | refine G.gdtf ?_ | refine G.gdft ?_ | (refine G.jk ?_; intro _)))
        refine Gs.buildSlice (by decide) ?_
        intro b2
        refine Gs.appendO (enc := encP) (l := doneP op n) (m := [(((op : Int) + 1, (n : Int)) : Stp)]) (x := .slice (some ⟨b2, 0, none⟩) 1 1) (e2 := 41) (by simp [fl]) (by simp; omega) (by simp; omega) ?_
        intro v'
        (repeat (first | refine G.add (by omega) ?_ | refine G.sub (by omega) ?_ | refine G.mul (by omega) ?_ | refine G.neg (by omega) ?_ | refine G.quo (by omega) (by omega) ?_ | refine G.rem (by omega) ?_ | refine G.shr (by omega) ?_ | refine G.conv (by omega) ?_ | refine G.step ?_ | refine G.buildA (by rfl) ?_ | (refine Gs.box ?_; intro _) | (refine Gs.alloc ?_; intro _) | refine Gs.store ?_ | refine G.retc ?_ | refine Gs.dr ?_ | refine G.qadd (by omega) ?_ | refine G.qsub (by omega) ?_ | refine G.qmul (by omega) ?_ | refine G.qneg (by omega) ?_ | refine G.qkp ?_ | refine Gs.qkb ?_ | refine G.withT ?_ | refine Gs.withb ?_ | refine G.ift ?_ | refine G.iff ?_ | refine G.gdtt ?_ | refine G.gdff ?_ | refine G.gdtf ?_ | refine G.gdft ?_ | (refine G.jk ?_; intro _)))
        refine Gs.goS (hc2 (n + 1, v') (by dsimp only; omega) (by dsimp only; omega)) rfl (hs := ?_)
        dsimp only
        rw [hsucc]
        infer_instance
    · have hn8 : n = 8 := by omega
      subst hn8
      (repeat (first | refine G.add (by omega) ?_ | refine G.sub (by omega) ?_ | refine G.mul (by omega) ?_ | refine G.neg (by omega) ?_ | refine G.quo (by omega) (by omega) ?_ | refine G.rem (by omega) ?_ | refine G.shr (by omega) ?_ | refine G.conv (by omega) ?_ | refine G.step ?_ | refine G.buildA (by rfl) ?_ | (refine Gs.box ?_; intro _) | (refine Gs.alloc ?_; intro _) | refine Gs.store ?_ | refine G.retc ?_ | refine Gs.dr ?_ | refine G.qadd (by omega) ?_ | refine G.qsub (by omega) ?_ | refine G.qmul (by omega) ?_ | refine G.qneg (by omega) ?_ | refine G.qkp ?_ | refine Gs.qkb ?_ | refine G.withT ?_ | refine Gs.withb ?_ | refine G.ift ?_ | refine G.iff ?_ | refine G.gdtt ?_ | refine G.gdff ?_ | refine G.gdtf ?_ | refine G.gdft ?_ | (refine G.jk ?_; intro _)))
      refine Gs.goS (hc (op + 1, v) (by dsimp only; omega) (by dsimp only; omega)) rfl (hs := ?_)
      dsimp only
      rw [← doneP_next]
      infer_instance
  · have : op = 10 := by omega
    subst this
    rw [doneP_all]
    refine Gs.freezeE (v := v) (enc := encP) (by decide) ?_
    intro h' hle hr
    exact Gs.ret hr
/-- The reading of a word, op by op. -/
def rd1 (w : List UInt8) (op : Int) : Option Stp := if op = 0 then none else rdOne w op
def rdK (w : List UInt8) : Nat → Option Stp
  | 0 => none
  | k + 1 => match rd1 w (10 - (k : Int)) with
    | some s => some s
    | none => rdK w k
theorem rdK_eq (w : List UInt8) : rdK w 11 = rd w := rfl
def rdV : Option Stp → Value
  | some s => .tuple #[Sv s, .bool true]
  | none => .tuple #[.agg #[I 0, I 0], .bool false]
theorem read_ok (w : List UInt8) (h : Hp) (hE : Env h) (hw : w.length ≤ 1000000) : Ct Tryz.prog 42 [Str w] h (fun _ v => v = rdV (rd w)) := by
  refine ct42 ?_
  intro w0
  unfold s42
  (repeat (first | refine G.add (by omega) ?_ | refine G.sub (by omega) ?_ | refine G.mul (by omega) ?_ | refine G.neg (by omega) ?_ | refine G.quo (by omega) (by omega) ?_ | refine G.rem (by omega) ?_ | refine G.shr (by omega) ?_ | refine G.conv (by omega) ?_ | refine G.step ?_ | refine G.buildA (by rfl) ?_ | (refine Gs.box ?_; intro _) | (refine Gs.alloc ?_; intro _) | refine Gs.store ?_ | refine G.retc ?_ | refine Gs.dr ?_ | refine G.qadd (by omega) ?_ | refine G.qsub (by omega) ?_ | refine G.qmul (by omega) ?_ | refine G.qneg (by omega) ?_ | refine G.qkp ?_ | refine Gs.qkb ?_ | refine G.withT ?_ | refine Gs.withb ?_ | refine G.ift ?_ | refine G.iff ?_ | refine G.gdtt ?_ | refine G.gdff ?_ | refine G.gdtf ?_ | refine G.gdft ?_ | (refine G.jk ?_; intro _)))
  rename_i b
  refine Gs.callv0 (rows_ok h) ?_
  rw [← rdK_eq]
  generalize hR : rdK w 11 = R at *
  refine Gs.lp (β := Nat) (fun i => I i) (fun _ => h) (fun _ => _) (fun i => i ≤ 11 ∧ rdK w (11 - i) = R) (fun i => 11 - i) 0 rfl ⟨by omega, hR⟩ (fun _ h => h) ?_
  rintro i ⟨hi, hr⟩ cont hc
  (repeat (first | refine G.add (by omega) ?_ | refine G.sub (by omega) ?_ | refine G.mul (by omega) ?_ | refine G.neg (by omega) ?_ | refine G.quo (by omega) (by omega) ?_ | refine G.rem (by omega) ?_ | refine G.shr (by omega) ?_ | refine G.conv (by omega) ?_ | refine G.step ?_ | refine G.buildA (by rfl) ?_ | (refine Gs.box ?_; intro _) | (refine Gs.alloc ?_; intro _) | refine Gs.store ?_ | refine G.retc ?_ | refine Gs.dr ?_ | refine G.qadd (by omega) ?_ | refine G.qsub (by omega) ?_ | refine G.qmul (by omega) ?_ | refine G.qneg (by omega) ?_ | refine G.qkp ?_ | refine Gs.qkb ?_ | refine G.withT ?_ | refine Gs.withb ?_ | refine G.ift ?_ | refine G.iff ?_ | refine G.gdtt ?_ | refine G.gdff ?_ | refine G.gdtf ?_ | refine G.gdft ?_ | (refine G.jk ?_; intro _)))
  refine G.ifd ?_ ?_ <;> intro hlt
  · have hlt' : i < 11 := by omega
    rw [show 11 - i = (10 - i) + 1 by omega] at hr
    have hop : (10 : Int) - ((10 - i : Nat) : Int) = i := by omega
    unfold rdK at hr
    rw [hop] at hr
    have hgo : rd1 w i = none → Gs w0 h h [Itm.blk b [Value.int IntKind.i64 0, Value.int IntKind.i64 0] 41] (cont (I ((i : Int) + 1))) := fun hn => by
      rw [hn] at hr
      refine Gs.go (hc (i + 1) ⟨by omega, by rw [show 11 - (i + 1) = 10 - i by omega]; exact hr⟩ (by omega)) rfl
    have hret : ∀ s, rd1 w i = some s → R = some s := fun s hs => by rw [hs] at hr; exact hr.symm
    clear hr hc
    refine G.jn ?_
    refine G.indexVN (s := [Str (word i), I (num i)]) (n := 11) ⟨by omega, by omega⟩ (rowsL_at i ⟨by omega, by omega⟩) rfl ?_
    (repeat (first | refine G.add (by omega) ?_ | refine G.sub (by omega) ?_ | refine G.mul (by omega) ?_ | refine G.neg (by omega) ?_ | refine G.quo (by omega) (by omega) ?_ | refine G.rem (by omega) ?_ | refine G.shr (by omega) ?_ | refine G.conv (by omega) ?_ | refine G.step ?_ | refine G.buildA (by rfl) ?_ | (refine Gs.box ?_; intro _) | (refine Gs.alloc ?_; intro _) | refine Gs.store ?_ | refine G.retc ?_ | refine Gs.dr ?_ | refine G.qadd (by omega) ?_ | refine G.qsub (by omega) ?_ | refine G.qmul (by omega) ?_ | refine G.qneg (by omega) ?_ | refine G.qkp ?_ | refine Gs.qkb ?_ | refine G.withT ?_ | refine Gs.withb ?_ | refine G.ift ?_ | refine G.iff ?_ | refine G.gdtt ?_ | refine G.gdff ?_ | refine G.gdtf ?_ | refine G.gdft ?_ | (refine G.jk ?_; intro _)))
    refine Gs.callv0 (CutPrefix_ok w (word i) h) ?_
    have htl : (Lib.trimPrefix w (word i)).length ≤ w.length := by
      unfold Lib.trimPrefix
      split
      · simp
      · omega
    (repeat (first | refine G.add (by omega) ?_ | refine G.sub (by omega) ?_ | refine G.mul (by omega) ?_ | refine G.neg (by omega) ?_ | refine G.quo (by omega) (by omega) ?_ | refine G.rem (by omega) ?_ | refine G.shr (by omega) ?_ | refine G.conv (by omega) ?_ | refine G.step ?_ | refine G.buildA (by rfl) ?_ | (refine Gs.box ?_; intro _) | (refine Gs.alloc ?_; intro _) | refine Gs.store ?_ | refine G.retc ?_ | refine Gs.dr ?_ | refine G.qadd (by omega) ?_ | refine G.qsub (by omega) ?_ | refine G.qmul (by omega) ?_ | refine G.qneg (by omega) ?_ | refine G.qkp ?_ | refine Gs.qkb ?_ | refine G.withT ?_ | refine Gs.withb ?_ | refine G.ift ?_ | refine G.iff ?_ | refine G.gdtt ?_ | refine G.gdff ?_ | refine G.gdtf ?_ | refine G.gdft ?_ | (refine G.jk ?_; intro _)))
    refine G.jnP (fun a => a = .bool (!(Lib.hasPrefix w (word i) && decide ((i : Int) ≠ 0)))) ?_ ?_
    · rintro a rfl
      refine G.jk ?_
      intro _
      cases hpre : (Lib.hasPrefix w (word i) && decide ((i : Int) ≠ 0))
      · have hn : rd1 w i = none := by
          unfold rd1 rdOne
          rw [Bool.and_eq_false_iff] at hpre
          rcases hpre with hp | hp
          · rw [hp]; simp
          · have hp := of_decide_eq_false hp
            rw [if_pos (by omega)]
        (repeat (first | refine G.add (by omega) ?_ | refine G.sub (by omega) ?_ | refine G.mul (by omega) ?_ | refine G.neg (by omega) ?_ | refine G.quo (by omega) (by omega) ?_ | refine G.rem (by omega) ?_ | refine G.shr (by omega) ?_ | refine G.conv (by omega) ?_ | refine G.step ?_ | refine G.buildA (by rfl) ?_ | (refine Gs.box ?_; intro _) | (refine Gs.alloc ?_; intro _) | refine Gs.store ?_ | refine G.retc ?_ | refine Gs.dr ?_ | refine G.qadd (by omega) ?_ | refine G.qsub (by omega) ?_ | refine G.qmul (by omega) ?_ | refine G.qneg (by omega) ?_ | refine G.qkp ?_ | refine Gs.qkb ?_ | refine G.withT ?_ | refine Gs.withb ?_ | refine G.ift ?_ | refine G.iff ?_ | refine G.gdtt ?_ | refine G.gdff ?_ | refine G.gdtf ?_ | refine G.gdft ?_ | (refine G.jk ?_; intro _)))
        exact Gs.sel (hgo hn)
      · rw [Bool.and_eq_true] at hpre
        obtain ⟨hp1, hp2⟩ := hpre
        have hp2 := of_decide_eq_true hp2
        have hrd : rd1 w i = if num i = 0 then (if Lib.trimPrefix w (word i) = [] then some ((i : Int), 0) else none)
            else match Lib.atoiAll (Lib.trimPrefix w (word i)) with
              | .ok n => some ((i : Int), n)
              | _ => none := by
          unfold rd1 rdOne
          rw [if_neg (by omega), hp1, if_pos rfl]
          rfl
        generalize Lib.trimPrefix w (word i) = rest at *
        (repeat (first | refine G.add (by omega) ?_ | refine G.sub (by omega) ?_ | refine G.mul (by omega) ?_ | refine G.neg (by omega) ?_ | refine G.quo (by omega) (by omega) ?_ | refine G.rem (by omega) ?_ | refine G.shr (by omega) ?_ | refine G.conv (by omega) ?_ | refine G.step ?_ | refine G.buildA (by rfl) ?_ | (refine Gs.box ?_; intro _) | (refine Gs.alloc ?_; intro _) | refine Gs.store ?_ | refine G.retc ?_ | refine Gs.dr ?_ | refine G.qadd (by omega) ?_ | refine G.qsub (by omega) ?_ | refine G.qmul (by omega) ?_ | refine G.qneg (by omega) ?_ | refine G.qkp ?_ | refine Gs.qkb ?_ | refine G.withT ?_ | refine Gs.withb ?_ | refine G.ift ?_ | refine G.iff ?_ | refine G.gdtt ?_ | refine G.gdff ?_ | refine G.gdtf ?_ | refine G.gdft ?_ | (refine G.jk ?_; intro _)))
        refine G.jnP (fun a => a = .bool (decide (num i = 0 ∧ rest = []))) ?_ ?_
        · rintro a rfl
          (repeat (first | refine G.add (by omega) ?_ | refine G.sub (by omega) ?_ | refine G.mul (by omega) ?_ | refine G.neg (by omega) ?_ | refine G.quo (by omega) (by omega) ?_ | refine G.rem (by omega) ?_ | refine G.shr (by omega) ?_ | refine G.conv (by omega) ?_ | refine G.step ?_ | refine G.buildA (by rfl) ?_ | (refine Gs.box ?_; intro _) | (refine Gs.alloc ?_; intro _) | refine Gs.store ?_ | refine G.retc ?_ | refine Gs.dr ?_ | refine G.qadd (by omega) ?_ | refine G.qsub (by omega) ?_ | refine G.qmul (by omega) ?_ | refine G.qneg (by omega) ?_ | refine G.qkp ?_ | refine Gs.qkb ?_ | refine G.withT ?_ | refine Gs.withb ?_ | refine G.ift ?_ | refine G.iff ?_ | refine G.gdtt ?_ | refine G.gdff ?_ | refine G.gdtf ?_ | refine G.gdft ?_ | (refine G.jk ?_; intro _)))
          refine G.ifd ?_ ?_ <;> intro h1
          · have := hret ((i : Int), 0) (by rw [hrd, if_pos h1.1, if_pos h1.2])
            rw [this]
            (repeat (first | refine G.add (by omega) ?_ | refine G.sub (by omega) ?_ | refine G.mul (by omega) ?_ | refine G.neg (by omega) ?_ | refine G.quo (by omega) (by omega) ?_ | refine G.rem (by omega) ?_ | refine G.shr (by omega) ?_ | refine G.conv (by omega) ?_ | refine G.step ?_ | refine G.buildA (by rfl) ?_ | (refine Gs.box ?_; intro _) | (refine Gs.alloc ?_; intro _) | refine Gs.store ?_ | refine G.retc ?_ | refine Gs.dr ?_ | refine G.qadd (by omega) ?_ | refine G.qsub (by omega) ?_ | refine G.qmul (by omega) ?_ | refine G.qneg (by omega) ?_ | refine G.qkp ?_ | refine Gs.qkb ?_ | refine G.withT ?_ | refine Gs.withb ?_ | refine G.ift ?_ | refine G.iff ?_ | refine G.gdtt ?_ | refine G.gdff ?_ | refine G.gdtf ?_ | refine G.gdft ?_ | (refine G.jk ?_; intro _)))
            exact Gs.ret rfl
          · refine Gs.call0 (Atoi_ok rest h hE (by omega)) ?_
            rintro _ h2 hle ⟨n, err, rfl, hn1, hn2, hA⟩
            refine Gs.weak0 hle ?_
            (repeat (first | refine G.add (by omega) ?_ | refine G.sub (by omega) ?_ | refine G.mul (by omega) ?_ | refine G.neg (by omega) ?_ | refine G.quo (by omega) (by omega) ?_ | refine G.rem (by omega) ?_ | refine G.shr (by omega) ?_ | refine G.conv (by omega) ?_ | refine G.step ?_ | refine G.buildA (by rfl) ?_ | (refine Gs.box ?_; intro _) | (refine Gs.alloc ?_; intro _) | refine Gs.store ?_ | refine G.retc ?_ | refine Gs.dr ?_ | refine G.qadd (by omega) ?_ | refine G.qsub (by omega) ?_ | refine G.qmul (by omega) ?_ | refine G.qneg (by omega) ?_ | refine G.qkp ?_ | refine Gs.qkb ?_ | refine G.withT ?_ | refine Gs.withb ?_ | refine G.ift ?_ | refine G.iff ?_ | refine G.gdtt ?_ | refine G.gdff ?_ | refine G.gdtf ?_ | refine G.gdft ?_ | (refine G.jk ?_; intro _)))
            refine G.jnP (fun a => (a = Value.bool true ∧ rd1 w i = some ((i : Int), n)) ∨ (a = Value.bool false ∧ rd1 w i = none)) ?_ ?_
            · rintro a (⟨rfl, h3⟩ | ⟨rfl, h3⟩)
              · rw [hret _ h3]
                (repeat (first | refine G.add (by omega) ?_ | refine G.sub (by omega) ?_ | refine G.mul (by omega) ?_ | refine G.neg (by omega) ?_ | refine G.quo (by omega) (by omega) ?_ | refine G.rem (by omega) ?_ | refine G.shr (by omega) ?_ | refine G.conv (by omega) ?_ | refine G.step ?_ | refine G.buildA (by rfl) ?_ | (refine Gs.box ?_; intro _) | (refine Gs.alloc ?_; intro _) | refine Gs.store ?_ | refine G.retc ?_ | refine Gs.dr ?_ | refine G.qadd (by omega) ?_ | refine G.qsub (by omega) ?_ | refine G.qmul (by omega) ?_ | refine G.qneg (by omega) ?_ | refine G.qkp ?_ | refine Gs.qkb ?_ | refine G.withT ?_ | refine Gs.withb ?_ | refine G.ift ?_ | refine G.iff ?_ | refine G.gdtt ?_ | refine G.gdff ?_ | refine G.gdtf ?_ | refine G.gdft ?_ | (refine G.jk ?_; intro _)))
                exact Gs.ret rfl
              · (repeat (first | refine G.add (by omega) ?_ | refine G.sub (by omega) ?_ | refine G.mul (by omega) ?_ | refine G.neg (by omega) ?_ | refine G.quo (by omega) (by omega) ?_ | refine G.rem (by omega) ?_ | refine G.shr (by omega) ?_ | refine G.conv (by omega) ?_ | refine G.step ?_ | refine G.buildA (by rfl) ?_ | (refine Gs.box ?_; intro _) | (refine Gs.alloc ?_; intro _) | refine Gs.store ?_ | refine G.retc ?_ | refine Gs.dr ?_ | refine G.qadd (by omega) ?_ | refine G.qsub (by omega) ?_ | refine G.qmul (by omega) ?_ | refine G.qneg (by omega) ?_ | refine G.qkp ?_ | refine Gs.qkb ?_ | refine G.withT ?_ | refine Gs.withb ?_ | refine G.ift ?_ | refine G.iff ?_ | refine G.gdtt ?_ | refine G.gdff ?_ | refine G.gdtf ?_ | refine G.gdft ?_ | (refine G.jk ?_; intro _)))
                exact Gs.sel (hgo h3)
            · intro K hK
              rcases hA with ⟨rfl, hA⟩ | ⟨⟨tp, N, rfl⟩, hA⟩
              · (repeat (first | refine G.add (by omega) ?_ | refine G.sub (by omega) ?_ | refine G.mul (by omega) ?_ | refine G.neg (by omega) ?_ | refine G.quo (by omega) (by omega) ?_ | refine G.rem (by omega) ?_ | refine G.shr (by omega) ?_ | refine G.conv (by omega) ?_ | refine G.step ?_ | refine G.buildA (by rfl) ?_ | (refine Gs.box ?_; intro _) | (refine Gs.alloc ?_; intro _) | refine Gs.store ?_ | refine G.retc ?_ | refine Gs.dr ?_ | refine G.qadd (by omega) ?_ | refine G.qsub (by omega) ?_ | refine G.qmul (by omega) ?_ | refine G.qneg (by omega) ?_ | refine G.qkp ?_ | refine Gs.qkb ?_ | refine G.withT ?_ | refine Gs.withb ?_ | refine G.ift ?_ | refine G.iff ?_ | refine G.gdtt ?_ | refine G.gdff ?_ | refine G.gdtf ?_ | refine G.gdft ?_ | (refine G.jk ?_; intro _)))
                by_cases hz : num i = 0
                · have hrn : ¬ rest = [] := fun hh => h1 ⟨hz, hh⟩
                  refine hK _ (.inr ⟨by rw [decide_eq_false (by omega)], by rw [hrd, if_pos hz, if_neg hrn]⟩)
                · refine hK _ (.inl ⟨by rw [decide_eq_true hz], by rw [hrd, if_neg hz, hA]⟩)
              · (repeat (first | refine G.add (by omega) ?_ | refine G.sub (by omega) ?_ | refine G.mul (by omega) ?_ | refine G.neg (by omega) ?_ | refine G.quo (by omega) (by omega) ?_ | refine G.rem (by omega) ?_ | refine G.shr (by omega) ?_ | refine G.conv (by omega) ?_ | refine G.step ?_ | refine G.buildA (by rfl) ?_ | (refine Gs.box ?_; intro _) | (refine Gs.alloc ?_; intro _) | refine Gs.store ?_ | refine G.retc ?_ | refine Gs.dr ?_ | refine G.qadd (by omega) ?_ | refine G.qsub (by omega) ?_ | refine G.qmul (by omega) ?_ | refine G.qneg (by omega) ?_ | refine G.qkp ?_ | refine Gs.qkb ?_ | refine G.withT ?_ | refine Gs.withb ?_ | refine G.ift ?_ | refine G.iff ?_ | refine G.gdtt ?_ | refine G.gdff ?_ | refine G.gdtf ?_ | refine G.gdft ?_ | (refine G.jk ?_; intro _)))
                refine hK _ (.inr ⟨rfl, ?_⟩)
                rw [hrd]
                by_cases hz : num i = 0
                · rw [if_pos hz, if_neg (fun hh => h1 ⟨hz, hh⟩)]
                · rw [if_neg hz]
                  cases hAA : Lib.atoiAll rest
                  · exact absurd hAA (hA _)
                  · rfl
                  · rfl
        · intro K hK
          (repeat (first | refine G.add (by omega) ?_ | refine G.sub (by omega) ?_ | refine G.mul (by omega) ?_ | refine G.neg (by omega) ?_ | refine G.quo (by omega) (by omega) ?_ | refine G.rem (by omega) ?_ | refine G.shr (by omega) ?_ | refine G.conv (by omega) ?_ | refine G.step ?_ | refine G.buildA (by rfl) ?_ | (refine Gs.box ?_; intro _) | (refine Gs.alloc ?_; intro _) | refine Gs.store ?_ | refine G.retc ?_ | refine Gs.dr ?_ | refine G.qadd (by omega) ?_ | refine G.qsub (by omega) ?_ | refine G.qmul (by omega) ?_ | refine G.qneg (by omega) ?_ | refine G.qkp ?_ | refine Gs.qkb ?_ | refine G.withT ?_ | refine Gs.withb ?_ | refine G.ift ?_ | refine G.iff ?_ | refine G.gdtt ?_ | refine G.gdff ?_ | refine G.gdtf ?_ | refine G.gdft ?_ | (refine G.jk ?_; intro _)))
          refine G.gddt ?_ ?_ <;> intro h1
          · (repeat (first | refine G.add (by omega) ?_ | refine G.sub (by omega) ?_ | refine G.mul (by omega) ?_ | refine G.neg (by omega) ?_ | refine G.quo (by omega) (by omega) ?_ | refine G.rem (by omega) ?_ | refine G.shr (by omega) ?_ | refine G.conv (by omega) ?_ | refine G.step ?_ | refine G.buildA (by rfl) ?_ | (refine Gs.box ?_; intro _) | (refine Gs.alloc ?_; intro _) | refine Gs.store ?_ | refine G.retc ?_ | refine Gs.dr ?_ | refine G.qadd (by omega) ?_ | refine G.qsub (by omega) ?_ | refine G.qmul (by omega) ?_ | refine G.qneg (by omega) ?_ | refine G.qkp ?_ | refine Gs.qkb ?_ | refine G.withT ?_ | refine Gs.withb ?_ | refine G.ift ?_ | refine G.iff ?_ | refine G.gdtt ?_ | refine G.gdff ?_ | refine G.gdtf ?_ | refine G.gdft ?_ | (refine G.jk ?_; intro _)))
            exact hK _ (by congr 1; rw [decide_eq_decide]; exact ⟨fun h2 => ⟨h1, h2⟩, fun h2 => h2.2⟩)
          · exact hK _ (by congr 1; symm; rw [decide_eq_false_iff_not]; exact fun h2 => h1 h2.1)
    · intro K hK
      cases hpre : Lib.hasPrefix w (word i)
      · (repeat (first | refine G.add (by omega) ?_ | refine G.sub (by omega) ?_ | refine G.mul (by omega) ?_ | refine G.neg (by omega) ?_ | refine G.quo (by omega) (by omega) ?_ | refine G.rem (by omega) ?_ | refine G.shr (by omega) ?_ | refine G.conv (by omega) ?_ | refine G.step ?_ | refine G.buildA (by rfl) ?_ | (refine Gs.box ?_; intro _) | (refine Gs.alloc ?_; intro _) | refine Gs.store ?_ | refine G.retc ?_ | refine Gs.dr ?_ | refine G.qadd (by omega) ?_ | refine G.qsub (by omega) ?_ | refine G.qmul (by omega) ?_ | refine G.qneg (by omega) ?_ | refine G.qkp ?_ | refine Gs.qkb ?_ | refine G.withT ?_ | refine Gs.withb ?_ | refine G.ift ?_ | refine G.iff ?_ | refine G.gdtt ?_ | refine G.gdff ?_ | refine G.gdtf ?_ | refine G.gdft ?_ | (refine G.jk ?_; intro _)))
        exact hK _ (by rw [hpre]; rfl)
      · (repeat (first | refine G.add (by omega) ?_ | refine G.sub (by omega) ?_ | refine G.mul (by omega) ?_ | refine G.neg (by omega) ?_ | refine G.quo (by omega) (by omega) ?_ | refine G.rem (by omega) ?_ | refine G.shr (by omega) ?_ | refine G.conv (by omega) ?_ | refine G.step ?_ | refine G.buildA (by rfl) ?_ | (refine Gs.box ?_; intro _) | (refine Gs.alloc ?_; intro _) | refine Gs.store ?_ | refine G.retc ?_ | refine Gs.dr ?_ | refine G.qadd (by omega) ?_ | refine G.qsub (by omega) ?_ | refine G.qmul (by omega) ?_ | refine G.qneg (by omega) ?_ | refine G.qkp ?_ | refine Gs.qkb ?_ | refine G.withT ?_ | refine Gs.withb ?_ | refine G.ift ?_ | refine G.iff ?_ | refine G.gdtt ?_ | refine G.gdff ?_ | refine G.gdtf ?_ | refine G.gdft ?_ | (refine G.jk ?_; intro _)))
        have hwe : word i = [] ↔ (i : Int) = 0 := by
          constructor
          · intro e
            apply Classical.byContradiction
            intro hn
            rcases op_cases (op := (i : Int)) ⟨by omega, by omega⟩ with h | h | h | h | h | h | h | h | h | h <;> rw [h] at e <;> revert e <;> decide
          · intro e; rw [e]; rfl
        exact hK _ (by rw [hpre]; congr 1; simp [hwe])
  · have : i = 11 := by omega
    subst this
    rw [← hr]
    (repeat (first | refine G.add (by omega) ?_ | refine G.sub (by omega) ?_ | refine G.mul (by omega) ?_ | refine G.neg (by omega) ?_ | refine G.quo (by omega) (by omega) ?_ | refine G.rem (by omega) ?_ | refine G.shr (by omega) ?_ | refine G.conv (by omega) ?_ | refine G.step ?_ | refine G.buildA (by rfl) ?_ | (refine Gs.box ?_; intro _) | (refine Gs.alloc ?_; intro _) | refine Gs.store ?_ | refine G.retc ?_ | refine Gs.dr ?_ | refine G.qadd (by omega) ?_ | refine G.qsub (by omega) ?_ | refine G.qmul (by omega) ?_ | refine G.qneg (by omega) ?_ | refine G.qkp ?_ | refine Gs.qkb ?_ | refine G.withT ?_ | refine Gs.withb ?_ | refine G.ift ?_ | refine G.iff ?_ | refine G.gdtt ?_ | refine G.gdff ?_ | refine G.gdtf ?_ | refine G.gdft ?_ | (refine G.jk ?_; intro _)))
    exact Gs.ret rfl
end Go.Proofs.YtlljhipmnkdpeaaGreatDoor
end

section
set_option linter.unusedVariables false
set_option maxHeartbeats 4000000
namespace Go.Proofs.YtlljhipmnkdpeaaGreatDoor
open Go Go.Sk Go.Pr Go.RowKit
def ParseP (s : List UInt8) (h' : Hp) (v : Value) : Prop :=
  (∃ l v', validB l 8 6 4 = true ∧ printP l = s ∧ v = .tuple #[v', I 0] ∧ RdE h' v' encP 2 l) ∨ ((∀ l, validB l 8 6 4 = true → printP l ≠ s) ∧ ∃ v', v = .tuple #[v', I 20] ∧ RdE h' v' encP 2 [])
theorem spl_len : ∀ s : List UInt8, (spl s).length ≤ s.length + 1 ∧ ∀ w ∈ spl s, w.length ≤ s.length
  | [] => by simp [spl]
  | c :: r => by
    obtain ⟨h1, h2⟩ := spl_len r
    rw [spl_cons]
    split
    · refine ⟨by simp; omega, fun w hw => ?_⟩
      rcases List.mem_cons.1 hw with rfl | hw
      · simp
      · have := h2 w hw
        simp; omega
    · cases hs : spl r with
      | nil => exact absurd hs (spl_ne r)
      | cons a t =>
        rw [hs] at h1 h2
        refine ⟨by simp at *; omega, fun w hw => ?_⟩
        rcases List.mem_cons.1 hw with rfl | hw
        · have := h2 a (by simp)
          simp; omega
        · have := h2 w (by simp [hw])
          simp; omega
theorem some_inj : ∀ (x y : List Stp), x.map some = y.map some → x = y := by
  intro x
  induction x with
  | nil => intro y h; cases y with
    | nil => rfl
    | cons b y => simp at h
  | cons a x ih => intro y h; cases y with
    | nil => simp at h
    | cons b y =>
      simp only [List.map_cons, List.cons.injEq, Option.some.injEq] at h
      rw [h.1, ih y h.2]
theorem rd_valid {l : List Stp} {s : List UInt8} (hv : validB l 8 6 4 = true) (hp : printP l = s) : (spl s).map rd = l.map some := by
  rw [← hp, spl_print hv, map_rd l (valid_parts hv).2.2]
theorem rd_nil : rd [] = none := by decide +kernel
theorem Parse_ok (s : List UInt8) (h : Hp) (hE : Env h) (hs : s.length ≤ 100000) : Ct Tryz.prog 23 [Str s] h (ParseP s) := by
  refine ct23 ?_
  intro w0
  unfold s23
  obtain ⟨hl1, hl2⟩ := spl_len s
  refine Gs.call0 (Split_ok s h hE (by omega)) ?_
  intro v1 h1 hle1 hr1
  have hE1 := hE.mono hle1
  refine Gs.lenE hr1 (by omega) ?_
  refine Gs.nilsl 41 2 ?_
  refine Gs.lp (β := Nat × List Stp × Value) (fun b => (b.2.2, I b.1)) (fun _ => h1) (fun b => [.sl b.2.2 41 2 (fl encP b.2.1)]) (fun b => b.1 ≤ (spl s).length ∧ ((spl s).take b.1).map rd = b.2.1.map some ∧ b.2.1.length = b.1) (fun b => (spl s).length - b.1) (0, [], .slice none 0 0) rfl ⟨Nat.zero_le _, rfl, rfl⟩ (fun _ h => h) ?_
  rintro ⟨i, p, pv⟩ ⟨hi, hrd, hpl⟩ cont hc
  dsimp only at *
  (repeat (first | refine G.add (by omega) ?_ | refine G.sub (by omega) ?_ | refine G.mul (by omega) ?_ | refine G.neg (by omega) ?_ | refine G.quo (by omega) (by omega) ?_ | refine G.rem (by omega) ?_ | refine G.shr (by omega) ?_ | refine G.conv (by omega) ?_ | refine G.step ?_ | refine G.buildA (by rfl) ?_ | (refine Gs.box ?_; intro _) | (refine Gs.alloc ?_; intro _) | refine Gs.store ?_ | refine G.retc ?_ | refine Gs.dr ?_ | refine G.qadd (by omega) ?_ | refine G.qsub (by omega) ?_ | refine G.qmul (by omega) ?_ | refine G.qneg (by omega) ?_ | refine G.qkp ?_ | refine Gs.qkb ?_ | refine G.withT ?_ | refine Gs.withb ?_ | refine G.ift ?_ | refine G.iff ?_ | refine G.gdtt ?_ | refine G.gdff ?_ | refine G.gdtf ?_ | refine G.gdft ?_ | (refine G.jk ?_; intro _)))
  refine G.ifd ?_ ?_ <;> intro hlt
  · have hlt' : i < (spl s).length := by omega
    have hwl := hl2 _ (List.getElem_mem hlt')
    refine Gs.indexE hr1 hlt' ?_
    intro b o hp
    refine Gs.loadP1 hp ?_
    refine Gs.callv0 (read_ok _ h1 hE1 (by omega)) ?_
    cases hR : rd (spl s)[i] with
    | none =>
      dsimp only [rdV]
      (repeat (first | refine G.add (by omega) ?_ | refine G.sub (by omega) ?_ | refine G.mul (by omega) ?_ | refine G.neg (by omega) ?_ | refine G.quo (by omega) (by omega) ?_ | refine G.rem (by omega) ?_ | refine G.shr (by omega) ?_ | refine G.conv (by omega) ?_ | refine G.step ?_ | refine G.buildA (by rfl) ?_ | (refine Gs.box ?_; intro _) | (refine Gs.alloc ?_; intro _) | refine Gs.store ?_ | refine G.retc ?_ | refine Gs.dr ?_ | refine G.qadd (by omega) ?_ | refine G.qsub (by omega) ?_ | refine G.qmul (by omega) ?_ | refine G.qneg (by omega) ?_ | refine G.qkp ?_ | refine Gs.qkb ?_ | refine G.withT ?_ | refine Gs.withb ?_ | refine G.ift ?_ | refine G.iff ?_ | refine G.gdtt ?_ | refine G.gdff ?_ | refine G.gdtf ?_ | refine G.gdft ?_ | (refine G.jk ?_; intro _)))
      refine Gs.ret (.inr ⟨?_, _, rfl, RdE.nil _ _ _⟩)
      intro l hv hp
      have h2 := rd_valid hv hp
      have h3 := congrArg (fun x => x[i]?) h2
      simp only [List.getElem?_map, List.getElem?_eq_getElem hlt', Option.map_some, hR] at h3
      cases hli : l[i]? with
      | none => rw [hli] at h3; cases h3
      | some x => rw [hli] at h3; cases h3
    | some st =>
      dsimp only [rdV]
      (repeat (first | refine G.add (by omega) ?_ | refine G.sub (by omega) ?_ | refine G.mul (by omega) ?_ | refine G.neg (by omega) ?_ | refine G.quo (by omega) (by omega) ?_ | refine G.rem (by omega) ?_ | refine G.shr (by omega) ?_ | refine G.conv (by omega) ?_ | refine G.step ?_ | refine G.buildA (by rfl) ?_ | (refine Gs.box ?_; intro _) | (refine Gs.alloc ?_; intro _) | refine Gs.store ?_ | refine G.retc ?_ | refine Gs.dr ?_ | refine G.qadd (by omega) ?_ | refine G.qsub (by omega) ?_ | refine G.qmul (by omega) ?_ | refine G.qneg (by omega) ?_ | refine G.qkp ?_ | refine Gs.qkb ?_ | refine G.withT ?_ | refine Gs.withb ?_ | refine G.ift ?_ | refine G.iff ?_ | refine G.gdtt ?_ | refine G.gdff ?_ | refine G.gdtf ?_ | refine G.gdft ?_ | (refine G.jk ?_; intro _)))
      refine Gs.buildSlice (by decide) ?_
      intro b2
      refine Gs.appendO (enc := encP) (l := p) (m := [st]) (x := .slice (some ⟨b2, 0, none⟩) 1 1) (e2 := 41) (by simp [fl]) (by simp; omega) (by simp; omega) ?_
      intro v'
      (repeat (first | refine G.add (by omega) ?_ | refine G.sub (by omega) ?_ | refine G.mul (by omega) ?_ | refine G.neg (by omega) ?_ | refine G.quo (by omega) (by omega) ?_ | refine G.rem (by omega) ?_ | refine G.shr (by omega) ?_ | refine G.conv (by omega) ?_ | refine G.step ?_ | refine G.buildA (by rfl) ?_ | (refine Gs.box ?_; intro _) | (refine Gs.alloc ?_; intro _) | refine Gs.store ?_ | refine G.retc ?_ | refine Gs.dr ?_ | refine G.qadd (by omega) ?_ | refine G.qsub (by omega) ?_ | refine G.qmul (by omega) ?_ | refine G.qneg (by omega) ?_ | refine G.qkp ?_ | refine Gs.qkb ?_ | refine G.withT ?_ | refine Gs.withb ?_ | refine G.ift ?_ | refine G.iff ?_ | refine G.gdtt ?_ | refine G.gdff ?_ | refine G.gdtf ?_ | refine G.gdft ?_ | (refine G.jk ?_; intro _)))
      refine Gs.goS (hc (i + 1, p ++ [st], v') ⟨by dsimp only; omega, ?_, ?_⟩ (by dsimp only; omega)) rfl
      · dsimp only
        rw [List.take_succ_eq_append_getElem hlt', List.map_append, List.map_append, hrd, List.map_cons, List.map_nil, hR]
        rfl
      · dsimp only
        rw [List.length_append, hpl]
        rfl
  · have hil : i = (spl s).length := by omega
    rw [hil, List.take_of_length_le (Nat.le_refl _)] at hrd
    refine Gs.freezeE (v := pv) (enc := encP) (by decide) ?_
    intro h2 hle2 hr2
    have hE2 := hE1.mono hle2
    refine Gs.callv0 (print_ok p pv h2 hE2 hr2 (by omega)) ?_
    (repeat (first | refine G.add (by omega) ?_ | refine G.sub (by omega) ?_ | refine G.mul (by omega) ?_ | refine G.neg (by omega) ?_ | refine G.quo (by omega) (by omega) ?_ | refine G.rem (by omega) ?_ | refine G.shr (by omega) ?_ | refine G.conv (by omega) ?_ | refine G.step ?_ | refine G.buildA (by rfl) ?_ | (refine Gs.box ?_; intro _) | (refine Gs.alloc ?_; intro _) | refine Gs.store ?_ | refine G.retc ?_ | refine Gs.dr ?_ | refine G.qadd (by omega) ?_ | refine G.qsub (by omega) ?_ | refine G.qmul (by omega) ?_ | refine G.qneg (by omega) ?_ | refine G.qkp ?_ | refine Gs.qkb ?_ | refine G.withT ?_ | refine Gs.withb ?_ | refine G.ift ?_ | refine G.iff ?_ | refine G.gdtt ?_ | refine G.gdff ?_ | refine G.gdtf ?_ | refine G.gdft ?_ | (refine G.jk ?_; intro _)))
    refine G.ifd ?_ ?_ <;> intro hne
    · refine Gs.ret (.inr ⟨?_, _, rfl, RdE.nil _ _ _⟩)
      intro l hv hp
      have h2 := rd_valid hv hp
      rw [hrd] at h2
      have := some_inj _ _ h2
      rw [this] at hne
      exact hne hp
    · have he : printP p = s := Classical.byContradiction hne
      refine Gs.ret (.inl ⟨p, pv, ?_, he, rfl, hr2⟩)
      cases hv : validB p 8 6 4
      · exfalso
        have : s = [] := by rw [← he]; unfold printP; rw [hv]; rfl
        rw [this] at hrd
        have h3 : [rd []] = p.map some := hrd
        rw [rd_nil] at h3
        cases p with
        | nil => simp at h3
        | cons a r => simp at h3
      · rfl
/-- What is still to be read: the word begun, and the rest. -/
def pend (w r : List UInt8) : List (List UInt8) := match spl r with
  | [] => [w]
  | a :: t => (w ++ a) :: t
theorem pend_nil (w : List UInt8) : pend w [] = [w] := by simp [pend, spl]
theorem pend_blank (w r : List UInt8) : pend w (32 :: r) = w :: spl r := by simp [pend, spl]
theorem pend_go (w r : List UInt8) (c : UInt8) (h : c ≠ 32) : pend w (c :: r) = pend (w ++ [c]) r := by
  unfold pend
  rw [spl_cons, if_neg h]
  cases hs : spl r with
  | nil => exact absurd hs (spl_ne r)
  | cons a t => simp
theorem pend_zero (r : List UInt8) : pend [] r = spl r := by
  unfold pend
  cases hs : spl r with
  | nil => exact absurd hs (spl_ne r)
  | cons a t => simp
def RpI (s : List UInt8) (i : Nat) (out : List Stp) (word : List UInt8) : Prop := ∀ l, validB l 8 6 4 = true → l.map wtext = spl s →
  (i ≤ s.length → ∃ j, out = l.take j ∧ (l.drop j).map wtext = pend word (s.drop i)) ∧ (i = s.length + 1 → out = l)
theorem RpI.start (s : List UInt8) : RpI s 0 [] [] := fun l hv hl => ⟨fun _ => ⟨0, rfl, by rw [List.drop_zero, List.drop_zero, pend_zero]; exact hl⟩, fun h => by omega⟩
theorem RpI.go {s : List UInt8} {i : Nat} {out : List Stp} {word : List UInt8} (h : RpI s i out word) (hi : i < s.length) (hc : s[i] ≠ 32) : RpI s (i + 1) out (word ++ [s[i]]) := fun l hv hl => by
  obtain ⟨j, h1, h2⟩ := (h l hv hl).1 (by omega)
  refine ⟨fun _ => ⟨j, h1, ?_⟩, fun h => by omega⟩
  rw [h2, List.drop_eq_getElem_cons hi, pend_go _ _ _ hc]
def matchW (word : List UInt8) : List Stp := stepsL.filter fun x => decide (wtext x = word)
theorem RpI.fin {s : List UInt8} {i : Nat} {out : List Stp} {word : List UInt8} (h : RpI s i out word) (hi : i ≤ s.length) (hc : ∀ hi : i < s.length, s[i] = 32) : RpI s (i + 1) (out ++ matchW word) [] := fun l hv hl => by
  obtain ⟨j, h1, h2⟩ := (h l hv hl).1 hi
  have hmem := (valid_parts hv).2.2
  have key : ∀ t, (l.drop j).map wtext = word :: t → out ++ matchW word = l.take (j + 1) ∧ (l.drop (j + 1)).map wtext = t := by
    intro t ht
    cases hd : l.drop j with
    | nil => rw [hd] at ht; cases ht
    | cons a r =>
      rw [hd] at ht
      simp only [List.map_cons, List.cons.injEq] at ht
      have hj : j < l.length := by
        rcases Nat.lt_or_ge j l.length with h | h
        · exact h
        · rw [List.drop_eq_nil_of_le h] at hd; cases hd
      rw [List.drop_eq_getElem_cons hj] at hd
      simp only [List.cons.injEq] at hd
      have ha : a ∈ stepsL := by rw [← hd.1]; exact hmem _ (List.getElem_mem hj)
      have := wtext_only a ha
      unfold matchW
      rw [← ht.1, this, h1, List.take_succ_eq_append_getElem hj, hd.1, hd.2]
      exact ⟨rfl, ht.2⟩
  rcases Nat.lt_or_ge i s.length with hlt | hge
  · rw [List.drop_eq_getElem_cons hlt, hc hlt, pend_blank] at h2
    obtain ⟨g1, g2⟩ := key _ h2
    exact ⟨fun _ => ⟨j + 1, g1, by rw [g2, pend_zero]⟩, fun h => by omega⟩
  · rw [List.drop_eq_nil_of_le hge, pend_nil] at h2
    obtain ⟨g1, g2⟩ := key [] h2
    refine ⟨fun h => by omega, fun _ => ?_⟩
    have : l.length ≤ j + 1 := by
      have := congrArg List.length g2
      simp at this
      omega
    rw [g1, List.take_of_length_le this]
theorem steps_len : stepsL.length = 42 := by decide +kernel
theorem rParse_ok (s : List UInt8) (h : Hp) (hs : s.length ≤ 100000) : Ct Tryz.prog 25 [Str s] h (ParseP s) := by
  refine ct25 ?_
  intro w0
  unfold s25
  have hsl := steps_len
  refine Gs.buildSlice (by decide) ?_
  intro b
  refine Gs.call0 (Steps_ok h) ?_
  intro v1 h1 hle1 hr1
  refine Gs.lp (β := Nat × List Stp × List UInt8 × Value) (fun b => (b.2.2.2, Str b.2.2.1, I b.1)) (fun _ => h1) (fun b => [.sl b.2.2.2 41 2 (fl encP b.2.1)]) (fun b => b.1 ≤ s.length + 1 ∧ b.2.2.1.length ≤ b.1 ∧ b.2.1.length ≤ 60 ∧ RpI s b.1 b.2.1 b.2.2.1) (fun b => s.length + 1 - b.1) (0, [], [], .slice (some ⟨b, 0, none⟩) 0 0) rfl ⟨by dsimp only; omega, by simp, by simp, RpI.start s⟩ (fun _ h => h) ?_
  rintro ⟨i, out, word, ov⟩ ⟨hi, hwl, hol, hI⟩ cont hc
  dsimp only at *
  refine G.jk ?_
  intro _
  refine G.jnP (fun a => (a = Value.bool true ∧ i ≤ s.length ∧ out.length ≤ 8) ∨ (a = Value.bool false ∧ (i = s.length + 1 ∨ 8 < out.length))) ?_ ?_
  · rintro a (⟨rfl, hi1, ho1⟩ | ⟨rfl, hex⟩)
    · (repeat (first | refine G.add (by omega) ?_ | refine G.sub (by omega) ?_ | refine G.mul (by omega) ?_ | refine G.neg (by omega) ?_ | refine G.quo (by omega) (by omega) ?_ | refine G.rem (by omega) ?_ | refine G.shr (by omega) ?_ | refine G.conv (by omega) ?_ | refine G.step ?_ | refine G.buildA (by rfl) ?_ | (refine Gs.box ?_; intro _) | (refine Gs.alloc ?_; intro _) | refine Gs.store ?_ | refine G.retc ?_ | refine Gs.dr ?_ | refine G.qadd (by omega) ?_ | refine G.qsub (by omega) ?_ | refine G.qmul (by omega) ?_ | refine G.qneg (by omega) ?_ | refine G.qkp ?_ | refine Gs.qkb ?_ | refine G.withT ?_ | refine Gs.withb ?_ | refine G.ift ?_ | refine G.iff ?_ | refine G.gdtt ?_ | refine G.gdff ?_ | refine G.gdtf ?_ | refine G.gdft ?_ | (refine G.jk ?_; intro _)))
      refine G.jn ?_
      refine G.jnP (fun a => (a = Value.bool true ∧ ∃ hi : i < s.length, s[i] ≠ 32) ∨ (a = Value.bool false ∧ ∀ hi : i < s.length, s[i] = 32)) ?_ ?_
      · rintro a (⟨rfl, hlt, hne⟩ | ⟨rfl, heq⟩)
        · (repeat (first | refine G.add (by omega) ?_ | refine G.sub (by omega) ?_ | refine G.mul (by omega) ?_ | refine G.neg (by omega) ?_ | refine G.quo (by omega) (by omega) ?_ | refine G.rem (by omega) ?_ | refine G.shr (by omega) ?_ | refine G.conv (by omega) ?_ | refine G.step ?_ | refine G.buildA (by rfl) ?_ | (refine Gs.box ?_; intro _) | (refine Gs.alloc ?_; intro _) | refine Gs.store ?_ | refine G.retc ?_ | refine Gs.dr ?_ | refine G.qadd (by omega) ?_ | refine G.qsub (by omega) ?_ | refine G.qmul (by omega) ?_ | refine G.qneg (by omega) ?_ | refine G.qkp ?_ | refine Gs.qkb ?_ | refine G.withT ?_ | refine Gs.withb ?_ | refine G.ift ?_ | refine G.iff ?_ | refine G.gdtt ?_ | refine G.gdff ?_ | refine G.gdtf ?_ | refine G.gdft ?_ | (refine G.jk ?_; intro _)))
          refine G.sfromto ⟨by omega, by omega, by omega⟩ ?_
          have hch : (s.take ((i : Int) + 1).toNat).drop ((i : Int)).toNat = [s[i]] := by
            rw [show ((i : Int) + 1).toNat = i + 1 by omega, Int.toNat_natCast, List.take_succ_eq_append_getElem hlt, List.drop_left' (by rw [List.length_take]; omega)]
          rw [hch]
          refine G.sadd ⟨by omega, by simp⟩ ?_
          (repeat (first | refine G.add (by omega) ?_ | refine G.sub (by omega) ?_ | refine G.mul (by omega) ?_ | refine G.neg (by omega) ?_ | refine G.quo (by omega) (by omega) ?_ | refine G.rem (by omega) ?_ | refine G.shr (by omega) ?_ | refine G.conv (by omega) ?_ | refine G.step ?_ | refine G.buildA (by rfl) ?_ | (refine Gs.box ?_; intro _) | (refine Gs.alloc ?_; intro _) | refine Gs.store ?_ | refine G.retc ?_ | refine Gs.dr ?_ | refine G.qadd (by omega) ?_ | refine G.qsub (by omega) ?_ | refine G.qmul (by omega) ?_ | refine G.qneg (by omega) ?_ | refine G.qkp ?_ | refine Gs.qkb ?_ | refine G.withT ?_ | refine Gs.withb ?_ | refine G.ift ?_ | refine G.iff ?_ | refine G.gdtt ?_ | refine G.gdff ?_ | refine G.gdtf ?_ | refine G.gdft ?_ | (refine G.jk ?_; intro _)))
          exact Gs.goS (hc (i + 1, out, word ++ [s[i]], ov) ⟨by dsimp only; omega, by simp; omega, hol, hI.go hlt hne⟩ (by dsimp only; omega)) rfl
        · (repeat (first | refine G.add (by omega) ?_ | refine G.sub (by omega) ?_ | refine G.mul (by omega) ?_ | refine G.neg (by omega) ?_ | refine G.quo (by omega) (by omega) ?_ | refine G.rem (by omega) ?_ | refine G.shr (by omega) ?_ | refine G.conv (by omega) ?_ | refine G.step ?_ | refine G.buildA (by rfl) ?_ | (refine Gs.box ?_; intro _) | (refine Gs.alloc ?_; intro _) | refine Gs.store ?_ | refine G.retc ?_ | refine Gs.dr ?_ | refine G.qadd (by omega) ?_ | refine G.qsub (by omega) ?_ | refine G.qmul (by omega) ?_ | refine G.qneg (by omega) ?_ | refine G.qkp ?_ | refine Gs.qkb ?_ | refine G.withT ?_ | refine Gs.withb ?_ | refine G.ift ?_ | refine G.iff ?_ | refine G.gdtt ?_ | refine G.gdff ?_ | refine G.gdtf ?_ | refine G.gdft ?_ | (refine G.jk ?_; intro _)))
          refine Gs.lp (β := Nat × Value) (fun b => (b.2, I b.1)) (fun _ => h1) (fun b => [.sl b.2 41 2 (fl encP (out ++ (stepsL.take b.1).filter fun x => decide (wtext x = word)))]) (fun b => b.1 ≤ stepsL.length) (fun b => stepsL.length - b.1) (0, ov) rfl (Nat.zero_le _) (fun w hw => by simpa using hw) ?_
          rintro ⟨k, v2⟩ hk cont2 hc2
          dsimp only at *
          have hfl : ((stepsL.take k).filter fun x => decide (wtext x = word)).length ≤ 42 := by
            refine Nat.le_trans (List.length_filter_le _ _) ?_
            rw [List.length_take]; omega
          (repeat (first | refine G.add (by omega) ?_ | refine G.sub (by omega) ?_ | refine G.mul (by omega) ?_ | refine G.neg (by omega) ?_ | refine G.quo (by omega) (by omega) ?_ | refine G.rem (by omega) ?_ | refine G.shr (by omega) ?_ | refine G.conv (by omega) ?_ | refine G.step ?_ | refine G.buildA (by rfl) ?_ | (refine Gs.box ?_; intro _) | (refine Gs.alloc ?_; intro _) | refine Gs.store ?_ | refine G.retc ?_ | refine Gs.dr ?_ | refine G.qadd (by omega) ?_ | refine G.qsub (by omega) ?_ | refine G.qmul (by omega) ?_ | refine G.qneg (by omega) ?_ | refine G.qkp ?_ | refine Gs.qkb ?_ | refine G.withT ?_ | refine Gs.withb ?_ | refine G.ift ?_ | refine G.iff ?_ | refine G.gdtt ?_ | refine G.gdff ?_ | refine G.gdtf ?_ | refine G.gdft ?_ | (refine G.jk ?_; intro _)))
          refine Gs.lenE hr1 (by omega) ?_
          (repeat (first | refine G.add (by omega) ?_ | refine G.sub (by omega) ?_ | refine G.mul (by omega) ?_ | refine G.neg (by omega) ?_ | refine G.quo (by omega) (by omega) ?_ | refine G.rem (by omega) ?_ | refine G.shr (by omega) ?_ | refine G.conv (by omega) ?_ | refine G.step ?_ | refine G.buildA (by rfl) ?_ | (refine Gs.box ?_; intro _) | (refine Gs.alloc ?_; intro _) | refine Gs.store ?_ | refine G.retc ?_ | refine Gs.dr ?_ | refine G.qadd (by omega) ?_ | refine G.qsub (by omega) ?_ | refine G.qmul (by omega) ?_ | refine G.qneg (by omega) ?_ | refine G.qkp ?_ | refine Gs.qkb ?_ | refine G.withT ?_ | refine Gs.withb ?_ | refine G.ift ?_ | refine G.iff ?_ | refine G.gdtt ?_ | refine G.gdff ?_ | refine G.gdtf ?_ | refine G.gdft ?_ | (refine G.jk ?_; intro _)))
          refine G.ifd ?_ ?_ <;> intro hlt
          · have hlt' : k < stepsL.length := by omega
            have hb := step_bd ((mem_steps _).1 (List.getElem_mem hlt'))
            have hnext := List.take_succ_eq_append_getElem hlt'
            refine G.jn ?_
            refine Gs.indexE hr1 hlt' ?_
            intro b1 o1 hp
            refine Gs.loadPN hp rfl ?_
            refine Gs.callv0 (word_ok stepsL[k] h1 (by omega) (by omega)) ?_
            (repeat (first | refine G.add (by omega) ?_ | refine G.sub (by omega) ?_ | refine G.mul (by omega) ?_ | refine G.neg (by omega) ?_ | refine G.quo (by omega) (by omega) ?_ | refine G.rem (by omega) ?_ | refine G.shr (by omega) ?_ | refine G.conv (by omega) ?_ | refine G.step ?_ | refine G.buildA (by rfl) ?_ | (refine Gs.box ?_; intro _) | (refine Gs.alloc ?_; intro _) | refine Gs.store ?_ | refine G.retc ?_ | refine Gs.dr ?_ | refine G.qadd (by omega) ?_ | refine G.qsub (by omega) ?_ | refine G.qmul (by omega) ?_ | refine G.qneg (by omega) ?_ | refine G.qkp ?_ | refine Gs.qkb ?_ | refine G.withT ?_ | refine Gs.withb ?_ | refine G.ift ?_ | refine G.iff ?_ | refine G.gdtt ?_ | refine G.gdff ?_ | refine G.gdtf ?_ | refine G.gdft ?_ | (refine G.jk ?_; intro _)))
            refine G.ifd ?_ ?_ <;> intro hw
            · refine Gs.indexE hr1 hlt' ?_
              intro b2 o2 hp2
              refine Gs.loadPN hp2 rfl ?_
              refine Gs.buildSlice (by decide) ?_
              intro b3
              refine Gs.appendO (enc := encP) (l := out ++ (stepsL.take k).filter fun x => decide (wtext x = word)) (m := [stepsL[k]]) (x := .slice (some ⟨b3, 0, none⟩) 1 1) (e2 := 41) (by simp [fl]) (by simp only [List.length_append, List.length_cons, List.length_nil]; omega) (by simp only [List.length_append, List.length_cons, List.length_nil]; omega) ?_
              intro v'
              (repeat (first | refine G.add (by omega) ?_ | refine G.sub (by omega) ?_ | refine G.mul (by omega) ?_ | refine G.neg (by omega) ?_ | refine G.quo (by omega) (by omega) ?_ | refine G.rem (by omega) ?_ | refine G.shr (by omega) ?_ | refine G.conv (by omega) ?_ | refine G.step ?_ | refine G.buildA (by rfl) ?_ | (refine Gs.box ?_; intro _) | (refine Gs.alloc ?_; intro _) | refine Gs.store ?_ | refine G.retc ?_ | refine Gs.dr ?_ | refine G.qadd (by omega) ?_ | refine G.qsub (by omega) ?_ | refine G.qmul (by omega) ?_ | refine G.qneg (by omega) ?_ | refine G.qkp ?_ | refine Gs.qkb ?_ | refine G.withT ?_ | refine Gs.withb ?_ | refine G.ift ?_ | refine G.iff ?_ | refine G.gdtt ?_ | refine G.gdff ?_ | refine G.gdtf ?_ | refine G.gdft ?_ | (refine G.jk ?_; intro _)))
              refine Gs.goS (hc2 (k + 1, v') (by dsimp only; omega) (by dsimp only; omega)) rfl (hs := ?_)
              dsimp only
              rw [hnext, List.filter_append, List.filter_cons, if_pos (decide_eq_true hw), List.filter_nil, ← List.append_assoc]
              infer_instance
            · (repeat (first | refine G.add (by omega) ?_ | refine G.sub (by omega) ?_ | refine G.mul (by omega) ?_ | refine G.neg (by omega) ?_ | refine G.quo (by omega) (by omega) ?_ | refine G.rem (by omega) ?_ | refine G.shr (by omega) ?_ | refine G.conv (by omega) ?_ | refine G.step ?_ | refine G.buildA (by rfl) ?_ | (refine Gs.box ?_; intro _) | (refine Gs.alloc ?_; intro _) | refine Gs.store ?_ | refine G.retc ?_ | refine Gs.dr ?_ | refine G.qadd (by omega) ?_ | refine G.qsub (by omega) ?_ | refine G.qmul (by omega) ?_ | refine G.qneg (by omega) ?_ | refine G.qkp ?_ | refine Gs.qkb ?_ | refine G.withT ?_ | refine Gs.withb ?_ | refine G.ift ?_ | refine G.iff ?_ | refine G.gdtt ?_ | refine G.gdff ?_ | refine G.gdtf ?_ | refine G.gdft ?_ | (refine G.jk ?_; intro _)))
              refine Gs.goS (hc2 (k + 1, v2) (by dsimp only; omega) (by dsimp only; omega)) rfl (hs := ?_)
              dsimp only
              rw [hnext, List.filter_append, List.filter_cons, if_neg (by simpa using hw), List.filter_nil, List.append_nil]
              infer_instance
          · have hkl : k = stepsL.length := by omega
            rw [hkl, List.take_of_length_le (Nat.le_refl _)] at hfl ⊢
            (repeat (first | refine G.add (by omega) ?_ | refine G.sub (by omega) ?_ | refine G.mul (by omega) ?_ | refine G.neg (by omega) ?_ | refine G.quo (by omega) (by omega) ?_ | refine G.rem (by omega) ?_ | refine G.shr (by omega) ?_ | refine G.conv (by omega) ?_ | refine G.step ?_ | refine G.buildA (by rfl) ?_ | (refine Gs.box ?_; intro _) | (refine Gs.alloc ?_; intro _) | refine Gs.store ?_ | refine G.retc ?_ | refine Gs.dr ?_ | refine G.qadd (by omega) ?_ | refine G.qsub (by omega) ?_ | refine G.qmul (by omega) ?_ | refine G.qneg (by omega) ?_ | refine G.qkp ?_ | refine Gs.qkb ?_ | refine G.withT ?_ | refine Gs.withb ?_ | refine G.ift ?_ | refine G.iff ?_ | refine G.gdtt ?_ | refine G.gdff ?_ | refine G.gdtf ?_ | refine G.gdft ?_ | (refine G.jk ?_; intro _)))
            refine Gs.goS (hc (i + 1, out ++ matchW word, [], v2) ⟨by dsimp only; omega, by simp, by dsimp only; unfold matchW; rw [List.length_append]; omega, hI.fin hi1 heq⟩ (by dsimp only; omega)) rfl (hs := ?_)
            dsimp only
            unfold matchW
            infer_instance
      · intro K hK
        (repeat (first | refine G.add (by omega) ?_ | refine G.sub (by omega) ?_ | refine G.mul (by omega) ?_ | refine G.neg (by omega) ?_ | refine G.quo (by omega) (by omega) ?_ | refine G.rem (by omega) ?_ | refine G.shr (by omega) ?_ | refine G.conv (by omega) ?_ | refine G.step ?_ | refine G.buildA (by rfl) ?_ | (refine Gs.box ?_; intro _) | (refine Gs.alloc ?_; intro _) | refine Gs.store ?_ | refine G.retc ?_ | refine Gs.dr ?_ | refine G.qadd (by omega) ?_ | refine G.qsub (by omega) ?_ | refine G.qmul (by omega) ?_ | refine G.qneg (by omega) ?_ | refine G.qkp ?_ | refine Gs.qkb ?_ | refine G.withT ?_ | refine Gs.withb ?_ | refine G.ift ?_ | refine G.iff ?_ | refine G.gdtt ?_ | refine G.gdff ?_ | refine G.gdtf ?_ | refine G.gdft ?_ | (refine G.jk ?_; intro _)))
        refine G.gddt ?_ ?_ <;> intro hlt
        · have hlt' : i < s.length := by omega
          have hcb := s[i].toNat_lt
          refine G.sindex (by omega) (by rw [Int.toNat_natCast]; exact hlt') ?_
          simp only [Int.toNat_natCast]
          (repeat (first | refine G.add (by omega) ?_ | refine G.sub (by omega) ?_ | refine G.mul (by omega) ?_ | refine G.neg (by omega) ?_ | refine G.quo (by omega) (by omega) ?_ | refine G.rem (by omega) ?_ | refine G.shr (by omega) ?_ | refine G.conv (by omega) ?_ | refine G.step ?_ | refine G.buildA (by rfl) ?_ | (refine Gs.box ?_; intro _) | (refine Gs.alloc ?_; intro _) | refine Gs.store ?_ | refine G.retc ?_ | refine Gs.dr ?_ | refine G.qadd (by omega) ?_ | refine G.qsub (by omega) ?_ | refine G.qmul (by omega) ?_ | refine G.qneg (by omega) ?_ | refine G.qkp ?_ | refine Gs.qkb ?_ | refine G.withT ?_ | refine Gs.withb ?_ | refine G.ift ?_ | refine G.iff ?_ | refine G.gdtt ?_ | refine G.gdff ?_ | refine G.gdtf ?_ | refine G.gdft ?_ | (refine G.jk ?_; intro _)))
          by_cases hc32 : s[i] = 32
          · refine hK _ (.inr ⟨?_, fun _ => hc32⟩)
            rw [decide_eq_false (by rw [hc32]; decide)]
          · refine hK _ (.inl ⟨?_, hlt', hc32⟩)
            rw [decide_eq_true]
            intro e
            apply hc32
            apply UInt8.toNat_inj.1
            show s[i].toNat = 32
            omega
        · exact hK _ (.inr ⟨rfl, fun hh => by omega⟩)
    · (repeat (first | refine G.add (by omega) ?_ | refine G.sub (by omega) ?_ | refine G.mul (by omega) ?_ | refine G.neg (by omega) ?_ | refine G.quo (by omega) (by omega) ?_ | refine G.rem (by omega) ?_ | refine G.shr (by omega) ?_ | refine G.conv (by omega) ?_ | refine G.step ?_ | refine G.buildA (by rfl) ?_ | (refine Gs.box ?_; intro _) | (refine Gs.alloc ?_; intro _) | refine Gs.store ?_ | refine G.retc ?_ | refine Gs.dr ?_ | refine G.qadd (by omega) ?_ | refine G.qsub (by omega) ?_ | refine G.qmul (by omega) ?_ | refine G.qneg (by omega) ?_ | refine G.qkp ?_ | refine Gs.qkb ?_ | refine G.withT ?_ | refine Gs.withb ?_ | refine G.ift ?_ | refine G.iff ?_ | refine G.gdtt ?_ | refine G.gdff ?_ | refine G.gdtf ?_ | refine G.gdft ?_ | (refine G.jk ?_; intro _)))
      refine Gs.freezeE (v := ov) (enc := encP) (by decide) ?_
      intro h2 hle2 hr2
      refine G.jnP (fun a => a = .bool (decide (printP out ≠ s ∨ s = []))) ?_ ?_
      · rintro a rfl
        refine G.jk ?_
        intro _
        refine G.ifd ?_ ?_ <;> intro hbad
        · refine Gs.buildSlice (by decide) ?_
          intro b4
          refine Gs.freezeE (v := .slice (some ⟨b4, 0, none⟩) 0 0) (enc := encP) (l := []) (by decide) ?_
          intro h3 hle3 hr3
          refine Gs.ret (.inr ⟨?_, _, rfl, hr3⟩)
          intro l hv hp
          have hl := spl_print hv
          rw [hp] at hl
          rcases hex with hex | hex
          · have := (hI l hv hl.symm).2 hex
            rw [this] at hbad
            rcases hbad with h4 | h4
            · exact h4 hp
            · exact print_ne hv (by rw [hp, h4])
          · rcases Nat.lt_or_ge s.length i with h5 | h5
            · have := (hI l hv hl.symm).2 (by omega)
              rw [this] at hex
              have := (valid_parts hv).2.1
              omega
            · obtain ⟨j, h6, _⟩ := (hI l hv hl.symm).1 h5
              rw [h6, List.length_take] at hex
              have := (valid_parts hv).2.1
              omega
        · have h4 : printP out = s := Classical.byContradiction fun hh => hbad (.inl hh)
          have h5 : s ≠ [] := fun hh => hbad (.inr hh)
          refine Gs.ret (.inl ⟨out, ov, ?_, h4, rfl, hr2⟩)
          cases hv : validB out 8 6 4
          · exfalso
            apply h5
            rw [← h4]
            unfold printP
            rw [hv]; rfl
          · rfl
      · intro K hK
        refine Gs.callv0 (rprint_ok out ov h2 hr2 (by omega)) ?_
        (repeat (first | refine G.add (by omega) ?_ | refine G.sub (by omega) ?_ | refine G.mul (by omega) ?_ | refine G.neg (by omega) ?_ | refine G.quo (by omega) (by omega) ?_ | refine G.rem (by omega) ?_ | refine G.shr (by omega) ?_ | refine G.conv (by omega) ?_ | refine G.step ?_ | refine G.buildA (by rfl) ?_ | (refine Gs.box ?_; intro _) | (refine Gs.alloc ?_; intro _) | refine Gs.store ?_ | refine G.retc ?_ | refine Gs.dr ?_ | refine G.qadd (by omega) ?_ | refine G.qsub (by omega) ?_ | refine G.qmul (by omega) ?_ | refine G.qneg (by omega) ?_ | refine G.qkp ?_ | refine Gs.qkb ?_ | refine G.withT ?_ | refine Gs.withb ?_ | refine G.ift ?_ | refine G.iff ?_ | refine G.gdtt ?_ | refine G.gdff ?_ | refine G.gdtf ?_ | refine G.gdft ?_ | (refine G.jk ?_; intro _)))
        refine G.gddf ?_ ?_ <;> intro h6
        · exact hK _ (by congr 1; symm; rw [decide_eq_true_iff]; exact .inl h6)
        · refine G.step (v := .bool (decide (s = []))) ?_
          exact hK _ (by congr 1; rw [decide_eq_decide]; exact ⟨fun h => .inr h, fun h => h.resolve_left h6⟩)
  · intro K hK
    (repeat (first | refine G.add (by omega) ?_ | refine G.sub (by omega) ?_ | refine G.mul (by omega) ?_ | refine G.neg (by omega) ?_ | refine G.quo (by omega) (by omega) ?_ | refine G.rem (by omega) ?_ | refine G.shr (by omega) ?_ | refine G.conv (by omega) ?_ | refine G.step ?_ | refine G.buildA (by rfl) ?_ | (refine Gs.box ?_; intro _) | (refine Gs.alloc ?_; intro _) | refine Gs.store ?_ | refine G.retc ?_ | refine Gs.dr ?_ | refine G.qadd (by omega) ?_ | refine G.qsub (by omega) ?_ | refine G.qmul (by omega) ?_ | refine G.qneg (by omega) ?_ | refine G.qkp ?_ | refine Gs.qkb ?_ | refine G.withT ?_ | refine Gs.withb ?_ | refine G.ift ?_ | refine G.iff ?_ | refine G.gdtt ?_ | refine G.gdff ?_ | refine G.gdtf ?_ | refine G.gdft ?_ | (refine G.jk ?_; intro _)))
    refine G.gddt ?_ ?_ <;> intro h2
    · refine Gs.olen (l := out) (enc := encP) (by omega) ?_
      (repeat (first | refine G.add (by omega) ?_ | refine G.sub (by omega) ?_ | refine G.mul (by omega) ?_ | refine G.neg (by omega) ?_ | refine G.quo (by omega) (by omega) ?_ | refine G.rem (by omega) ?_ | refine G.shr (by omega) ?_ | refine G.conv (by omega) ?_ | refine G.step ?_ | refine G.buildA (by rfl) ?_ | (refine Gs.box ?_; intro _) | (refine Gs.alloc ?_; intro _) | refine Gs.store ?_ | refine G.retc ?_ | refine Gs.dr ?_ | refine G.qadd (by omega) ?_ | refine G.qsub (by omega) ?_ | refine G.qmul (by omega) ?_ | refine G.qneg (by omega) ?_ | refine G.qkp ?_ | refine Gs.qkb ?_ | refine G.withT ?_ | refine Gs.withb ?_ | refine G.ift ?_ | refine G.iff ?_ | refine G.gdtt ?_ | refine G.gdff ?_ | refine G.gdtf ?_ | refine G.gdft ?_ | (refine G.jk ?_; intro _)))
      by_cases h3 : (out.length : Int) ≤ 8
      · exact hK _ (.inl ⟨by rw [decide_eq_true h3], by omega, by omega⟩)
      · exact hK _ (.inr ⟨by rw [decide_eq_false h3], .inr (by omega)⟩)
    · exact hK _ (.inr ⟨rfl, .inl (by omega)⟩)
end Go.Proofs.YtlljhipmnkdpeaaGreatDoor
end

