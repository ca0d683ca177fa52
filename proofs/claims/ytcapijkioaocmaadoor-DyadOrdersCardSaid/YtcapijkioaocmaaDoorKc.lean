/-
  Lemmas for the proof of the statement of this claim: a part of the road, no statement of its own. Conditions: those that each lemma names.
-/
import Derived.Test.YtcapijkioaocmaaDoorKs
import Derived.Test.YtcapijkioaocmaaDoorKm
import Derived.Test.YtcapijkioaocmaaDoorKb
import Derived.Lib.TrailingZeros
import Derived.Test.YtcapijkioaocmaaDoorKv
section
set_option linter.unusedVariables false
set_option maxHeartbeats 4000000
namespace Go.Proofs.YtcapijkioaocmaaDoor
open Go Go.Sk Go.Dy
abbrev Fr2 (n e : Int) : Value := .agg #[I n, I e]
abbrev Got (g : Int × Int × Int) : Value := .agg #[I g.1, I g.2.1, I g.2.2]
abbrev Two (g : Int × Int × Int) : Value := .tuple #[.agg #[I g.1, I g.2.1], I g.2.2]
theorem frac_ok (n e : Int) (h : Hp) : Ct Tryd.prog 17 [I n, I e] h (fun _ v => v = Fr2 n e) := by
  refine ct17 ?_
  intro w0
  unfold s17
  (repeat (first | refine G.add (by omega) ?_ | refine G.sub (by omega) ?_ | refine G.mul (by omega) ?_ | refine G.neg (by omega) ?_ | refine G.quo (by omega) (by omega) ?_ | refine G.rem (by omega) ?_ | refine G.shr (by omega) ?_ | refine G.conv (by omega) ?_ | refine G.step ?_ | refine G.buildA (by rfl) ?_ | (refine Gs.box ?_; intro _) | (refine Gs.alloc ?_; intro _) | refine Gs.store ?_ | refine G.retc ?_ | refine Gs.dr ?_ | refine G.qadd (by omega) ?_ | refine G.qsub (by omega) ?_ | refine G.qmul (by omega) ?_ | refine G.qkp ?_ | refine Gs.qkb ?_ | refine G.withT ?_ | refine Gs.withb ?_ | refine G.ift ?_ | refine G.iff ?_ | refine G.gdtt ?_ | refine G.gdff ?_ | refine G.gdtf ?_ | refine G.gdft ?_ | (refine G.jk ?_; intro _)))
  exact Gs.ret rfl
theorem got_ok (n e c : Int) (h : Hp) : Ct Tryd.prog 13 [Fr2 n e, I c] h (fun _ v => v = Got (n, e, c)) := by
  refine ct13 ?_
  intro w0
  unfold s13
  (repeat (first | refine G.add (by omega) ?_ | refine G.sub (by omega) ?_ | refine G.mul (by omega) ?_ | refine G.neg (by omega) ?_ | refine G.quo (by omega) (by omega) ?_ | refine G.rem (by omega) ?_ | refine G.shr (by omega) ?_ | refine G.conv (by omega) ?_ | refine G.step ?_ | refine G.buildA (by rfl) ?_ | (refine Gs.box ?_; intro _) | (refine Gs.alloc ?_; intro _) | refine Gs.store ?_ | refine G.retc ?_ | refine Gs.dr ?_ | refine G.qadd (by omega) ?_ | refine G.qsub (by omega) ?_ | refine G.qmul (by omega) ?_ | refine G.qkp ?_ | refine Gs.qkb ?_ | refine G.withT ?_ | refine Gs.withb ?_ | refine G.ift ?_ | refine G.iff ?_ | refine G.gdtt ?_ | refine G.gdff ?_ | refine G.gdtf ?_ | refine G.gdft ?_ | (refine G.jk ?_; intro _)))
  exact Gs.ret rfl
theorem neg_ok (n e : Int) (h : Hp) (hn : -9223372036854775807 ≤ n) (hn' : n ≤ 9223372036854775807) : Ct Tryd.prog 21 [Fr2 n e] h (fun _ v => v = Fr2 (-n) e) := by
  refine ct21 ?_
  intro w0
  unfold s21
  (repeat (first | refine G.add (by omega) ?_ | refine G.sub (by omega) ?_ | refine G.mul (by omega) ?_ | refine G.neg (by omega) ?_ | refine G.quo (by omega) (by omega) ?_ | refine G.rem (by omega) ?_ | refine G.shr (by omega) ?_ | refine G.conv (by omega) ?_ | refine G.step ?_ | refine G.buildA (by rfl) ?_ | (refine Gs.box ?_; intro _) | (refine Gs.alloc ?_; intro _) | refine Gs.store ?_ | refine G.retc ?_ | refine Gs.dr ?_ | refine G.qadd (by omega) ?_ | refine G.qsub (by omega) ?_ | refine G.qmul (by omega) ?_ | refine G.qkp ?_ | refine Gs.qkb ?_ | refine G.withT ?_ | refine Gs.withb ?_ | refine G.ift ?_ | refine G.iff ?_ | refine G.gdtt ?_ | refine G.gdff ?_ | refine G.gdtf ?_ | refine G.gdft ?_ | (refine G.jk ?_; intro _)))
  exact Gs.ret rfl
theorem rneg_ok (n e : Int) (h : Hp) (hn : -9223372036854775807 ≤ n) (hn' : n ≤ 9223372036854775807) : Ct Tryd.prog 22 [Fr2 n e] h (fun _ v => v = Fr2 (-n) e) := by
  refine ct22 ?_
  intro w0
  unfold s22
  (repeat (first | refine G.add (by omega) ?_ | refine G.sub (by omega) ?_ | refine G.mul (by omega) ?_ | refine G.neg (by omega) ?_ | refine G.quo (by omega) (by omega) ?_ | refine G.rem (by omega) ?_ | refine G.shr (by omega) ?_ | refine G.conv (by omega) ?_ | refine G.step ?_ | refine G.buildA (by rfl) ?_ | (refine Gs.box ?_; intro _) | (refine Gs.alloc ?_; intro _) | refine Gs.store ?_ | refine G.retc ?_ | refine Gs.dr ?_ | refine G.qadd (by omega) ?_ | refine G.qsub (by omega) ?_ | refine G.qmul (by omega) ?_ | refine G.qkp ?_ | refine Gs.qkb ?_ | refine G.withT ?_ | refine Gs.withb ?_ | refine G.ift ?_ | refine G.iff ?_ | refine G.gdtt ?_ | refine G.gdff ?_ | refine G.gdtf ?_ | refine G.gdft ?_ | (refine G.jk ?_; intro _)))
  exact Gs.ret rfl
theorem power_ok : ∀ (n : Nat) (h : Hp), n ≤ 62 → Ct Tryd.prog 44 [I n] h (fun _ v => v = I (2 ^ n))
  | 0, h, hn => by
    refine ct44 ?_
    intro w0
    unfold s44
    ((repeat (first | refine G.add (by omega) ?_ | refine G.sub (by omega) ?_ | refine G.mul (by omega) ?_ | refine G.neg (by omega) ?_ | refine G.quo (by omega) (by omega) ?_ | refine G.rem (by omega) ?_ | refine G.shr (by omega) ?_ | refine G.conv (by omega) ?_ | refine G.step ?_ | refine G.buildA (by rfl) ?_ | (refine Gs.box ?_; intro _) | (refine Gs.alloc ?_; intro _) | refine Gs.store ?_ | refine G.retc ?_ | refine Gs.dr ?_ | refine G.qadd (by omega) ?_ | refine G.qsub (by omega) ?_ | refine G.qmul (by omega) ?_ | refine G.qkp ?_ | refine Gs.qkb ?_ | refine G.withT ?_ | refine Gs.withb ?_ | refine G.ift ?_ | refine G.iff ?_ | refine G.gdtt ?_ | refine G.gdff ?_ | refine G.gdtf ?_ | refine G.gdft ?_ | refine G.jn ?_ | (refine G.jk ?_; intro _))); repeat (any_goals ((first | (refine G.ifd ?_ ?_ <;> intro _) | (refine G.ifb ?_ ?_ <;> intro _) | (refine G.gddt ?_ ?_ <;> intro _) | (refine G.gddf ?_ ?_ <;> intro _) | (refine G.gdbt ?_ ?_ <;> intro _) | (refine G.gdbf ?_ ?_ <;> intro _)) <;> (try (exfalso; omega; done)) <;> (repeat (first | refine G.add (by omega) ?_ | refine G.sub (by omega) ?_ | refine G.mul (by omega) ?_ | refine G.neg (by omega) ?_ | refine G.quo (by omega) (by omega) ?_ | refine G.rem (by omega) ?_ | refine G.shr (by omega) ?_ | refine G.conv (by omega) ?_ | refine G.step ?_ | refine G.buildA (by rfl) ?_ | (refine Gs.box ?_; intro _) | (refine Gs.alloc ?_; intro _) | refine Gs.store ?_ | refine G.retc ?_ | refine Gs.dr ?_ | refine G.qadd (by omega) ?_ | refine G.qsub (by omega) ?_ | refine G.qmul (by omega) ?_ | refine G.qkp ?_ | refine Gs.qkb ?_ | refine G.withT ?_ | refine Gs.withb ?_ | refine G.ift ?_ | refine G.iff ?_ | refine G.gdtt ?_ | refine G.gdff ?_ | refine G.gdtf ?_ | refine G.gdft ?_ | refine G.jn ?_ | (refine G.jk ?_; intro _))))))
    exact Gs.ret rfl
  | n + 1, h, hn => by
    refine ct44 ?_
    intro w0
    unfold s44
    ((repeat (first | refine G.add (by omega) ?_ | refine G.sub (by omega) ?_ | refine G.mul (by omega) ?_ | refine G.neg (by omega) ?_ | refine G.quo (by omega) (by omega) ?_ | refine G.rem (by omega) ?_ | refine G.shr (by omega) ?_ | refine G.conv (by omega) ?_ | refine G.step ?_ | refine G.buildA (by rfl) ?_ | (refine Gs.box ?_; intro _) | (refine Gs.alloc ?_; intro _) | refine Gs.store ?_ | refine G.retc ?_ | refine Gs.dr ?_ | refine G.qadd (by omega) ?_ | refine G.qsub (by omega) ?_ | refine G.qmul (by omega) ?_ | refine G.qkp ?_ | refine Gs.qkb ?_ | refine G.withT ?_ | refine Gs.withb ?_ | refine G.ift ?_ | refine G.iff ?_ | refine G.gdtt ?_ | refine G.gdff ?_ | refine G.gdtf ?_ | refine G.gdft ?_ | refine G.jn ?_ | (refine G.jk ?_; intro _))); repeat (any_goals ((first | (refine G.ifd ?_ ?_ <;> intro _) | (refine G.ifb ?_ ?_ <;> intro _) | (refine G.gddt ?_ ?_ <;> intro _) | (refine G.gddf ?_ ?_ <;> intro _) | (refine G.gdbt ?_ ?_ <;> intro _) | (refine G.gdbf ?_ ?_ <;> intro _)) <;> (try (exfalso; omega; done)) <;> (repeat (first | refine G.add (by omega) ?_ | refine G.sub (by omega) ?_ | refine G.mul (by omega) ?_ | refine G.neg (by omega) ?_ | refine G.quo (by omega) (by omega) ?_ | refine G.rem (by omega) ?_ | refine G.shr (by omega) ?_ | refine G.conv (by omega) ?_ | refine G.step ?_ | refine G.buildA (by rfl) ?_ | (refine Gs.box ?_; intro _) | (refine Gs.alloc ?_; intro _) | refine Gs.store ?_ | refine G.retc ?_ | refine Gs.dr ?_ | refine G.qadd (by omega) ?_ | refine G.qsub (by omega) ?_ | refine G.qmul (by omega) ?_ | refine G.qkp ?_ | refine Gs.qkb ?_ | refine G.withT ?_ | refine Gs.withb ?_ | refine G.ift ?_ | refine G.iff ?_ | refine G.gdtt ?_ | refine G.gdff ?_ | refine G.gdtf ?_ | refine G.gdft ?_ | refine G.jn ?_ | (refine G.jk ?_; intro _))))))
    rw [show ((n + 1 : Nat) : Int) - 1 = n by omega]
    refine Gs.callv0 (power_ok n h (by omega)) ?_
    have h1 : (2 : Int) ^ n ≤ 2 ^ 61 := two_pow_le (by omega)
    have h2 : (0 : Int) < 2 ^ n := Int.pow_pos (by decide)
    have h3 : (2 : Int) ^ 61 = 2305843009213693952 := by decide
    refine G.mul (by omega) ?_
    exact Gs.ret (by rw [Int.pow_succ, Int.mul_comm])
theorem power_oki (n : Int) (h : Hp) (h0 : 0 ≤ n) (hn : n ≤ 62) : Ct Tryd.prog 44 [I n] h (fun _ v => v = I (2 ^ n.toNat)) := by
  obtain ⟨k, rfl⟩ := Int.eq_ofNat_of_zero_le h0
  exact power_ok k h (by omega)
theorem valid_ok (n e : Int) (h : Hp) : Ct Tryd.prog 16 [Fr2 n e] h (fun _ v => v = .bool (validB n e)) := by
  refine ct16 ?_
  intro w0
  unfold s16
  ((repeat (first | refine G.add (by omega) ?_ | refine G.sub (by omega) ?_ | refine G.mul (by omega) ?_ | refine G.neg (by omega) ?_ | refine G.quo (by omega) (by omega) ?_ | refine G.rem (by omega) ?_ | refine G.shr (by omega) ?_ | refine G.conv (by omega) ?_ | refine G.step ?_ | refine G.buildA (by rfl) ?_ | (refine Gs.box ?_; intro _) | (refine Gs.alloc ?_; intro _) | refine Gs.store ?_ | refine G.retc ?_ | refine Gs.dr ?_ | refine G.qadd (by omega) ?_ | refine G.qsub (by omega) ?_ | refine G.qmul (by omega) ?_ | refine G.qkp ?_ | refine Gs.qkb ?_ | refine G.withT ?_ | refine Gs.withb ?_ | refine G.ift ?_ | refine G.iff ?_ | refine G.gdtt ?_ | refine G.gdff ?_ | refine G.gdtf ?_ | refine G.gdft ?_ | refine G.jn ?_ | (refine G.jk ?_; intro _))); repeat (any_goals ((first | (refine G.ifd ?_ ?_ <;> intro _) | (refine G.ifb ?_ ?_ <;> intro _) | (refine G.gddt ?_ ?_ <;> intro _) | (refine G.gddf ?_ ?_ <;> intro _) | (refine G.gdbt ?_ ?_ <;> intro _) | (refine G.gdbf ?_ ?_ <;> intro _)) <;> (try (exfalso; omega; done)) <;> (repeat (first | refine G.add (by omega) ?_ | refine G.sub (by omega) ?_ | refine G.mul (by omega) ?_ | refine G.neg (by omega) ?_ | refine G.quo (by omega) (by omega) ?_ | refine G.rem (by omega) ?_ | refine G.shr (by omega) ?_ | refine G.conv (by omega) ?_ | refine G.step ?_ | refine G.buildA (by rfl) ?_ | (refine Gs.box ?_; intro _) | (refine Gs.alloc ?_; intro _) | refine Gs.store ?_ | refine G.retc ?_ | refine Gs.dr ?_ | refine G.qadd (by omega) ?_ | refine G.qsub (by omega) ?_ | refine G.qmul (by omega) ?_ | refine G.qkp ?_ | refine Gs.qkb ?_ | refine G.withT ?_ | refine Gs.withb ?_ | refine G.ift ?_ | refine G.iff ?_ | refine G.gdtt ?_ | refine G.gdff ?_ | refine G.gdtf ?_ | refine G.gdft ?_ | refine G.jn ?_ | (refine G.jk ?_; intro _))))))
  case refine_1.refine_1.refine_1.refine_1.refine_2 =>
    refine G.land 1 (by decide) (by decide) ?_
    (repeat (first | refine G.add (by omega) ?_ | refine G.sub (by omega) ?_ | refine G.mul (by omega) ?_ | refine G.neg (by omega) ?_ | refine G.quo (by omega) (by omega) ?_ | refine G.rem (by omega) ?_ | refine G.shr (by omega) ?_ | refine G.conv (by omega) ?_ | refine G.step ?_ | refine G.buildA (by rfl) ?_ | (refine Gs.box ?_; intro _) | (refine Gs.alloc ?_; intro _) | refine Gs.store ?_ | refine G.retc ?_ | refine Gs.dr ?_ | refine G.qadd (by omega) ?_ | refine G.qsub (by omega) ?_ | refine G.qmul (by omega) ?_ | refine G.qkp ?_ | refine Gs.qkb ?_ | refine G.withT ?_ | refine Gs.withb ?_ | refine G.ift ?_ | refine G.iff ?_ | refine G.gdtt ?_ | refine G.gdff ?_ | refine G.gdtf ?_ | refine G.gdft ?_ | (refine G.jk ?_; intro _)))
    refine Gs.ret ?_
    unfold validB
    congr 1
    simp [*]
  all_goals
    refine Gs.ret ?_
    unfold validB
    congr 1
    simp [*]
theorem rvalid_ok (n e : Int) (h : Hp) : Ct Tryd.prog 18 [Fr2 n e] h (fun _ v => v = .bool (validB n e)) := by
  refine ct18 ?_
  intro w0
  unfold s18
  ((repeat (first | refine G.add (by omega) ?_ | refine G.sub (by omega) ?_ | refine G.mul (by omega) ?_ | refine G.neg (by omega) ?_ | refine G.quo (by omega) (by omega) ?_ | refine G.rem (by omega) ?_ | refine G.shr (by omega) ?_ | refine G.conv (by omega) ?_ | refine G.step ?_ | refine G.buildA (by rfl) ?_ | (refine Gs.box ?_; intro _) | (refine Gs.alloc ?_; intro _) | refine Gs.store ?_ | refine G.retc ?_ | refine Gs.dr ?_ | refine G.qadd (by omega) ?_ | refine G.qsub (by omega) ?_ | refine G.qmul (by omega) ?_ | refine G.qkp ?_ | refine Gs.qkb ?_ | refine G.withT ?_ | refine Gs.withb ?_ | refine G.ift ?_ | refine G.iff ?_ | refine G.gdtt ?_ | refine G.gdff ?_ | refine G.gdtf ?_ | refine G.gdft ?_ | refine G.jn ?_ | (refine G.jk ?_; intro _))); repeat (any_goals ((first | (refine G.ifd ?_ ?_ <;> intro _) | (refine G.ifb ?_ ?_ <;> intro _) | (refine G.gddt ?_ ?_ <;> intro _) | (refine G.gddf ?_ ?_ <;> intro _) | (refine G.gdbt ?_ ?_ <;> intro _) | (refine G.gdbf ?_ ?_ <;> intro _)) <;> (try (exfalso; omega; done)) <;> (repeat (first | refine G.add (by omega) ?_ | refine G.sub (by omega) ?_ | refine G.mul (by omega) ?_ | refine G.neg (by omega) ?_ | refine G.quo (by omega) (by omega) ?_ | refine G.rem (by omega) ?_ | refine G.shr (by omega) ?_ | refine G.conv (by omega) ?_ | refine G.step ?_ | refine G.buildA (by rfl) ?_ | (refine Gs.box ?_; intro _) | (refine Gs.alloc ?_; intro _) | refine Gs.store ?_ | refine G.retc ?_ | refine Gs.dr ?_ | refine G.qadd (by omega) ?_ | refine G.qsub (by omega) ?_ | refine G.qmul (by omega) ?_ | refine G.qkp ?_ | refine Gs.qkb ?_ | refine G.withT ?_ | refine Gs.withb ?_ | refine G.ift ?_ | refine G.iff ?_ | refine G.gdtt ?_ | refine G.gdff ?_ | refine G.gdtf ?_ | refine G.gdft ?_ | refine G.jn ?_ | (refine G.jk ?_; intro _))))))
  all_goals
    refine Gs.ret ?_
    unfold validB
    refine congrArg Value.bool ?_
    first
      | (symm; rw [decide_eq_false_iff_not]; omega)
      | (symm; rw [decide_eq_true_iff]; omega)
      | (have := tmod2 n; rw [decide_eq_decide]; omega)
theorem made_ok (n e : Int) (h : Hp) (hn : -9223372036854775808 ≤ n) (hn' : n ≤ 9223372036854775807) : Ct Tryd.prog 32 [I n, I e] h (fun _ v => v = Got (made n e)) := by
  refine ct32 ?_
  intro w0
  unfold s32
  ((repeat (first | refine G.add (by omega) ?_ | refine G.sub (by omega) ?_ | refine G.mul (by omega) ?_ | refine G.neg (by omega) ?_ | refine G.quo (by omega) (by omega) ?_ | refine G.rem (by omega) ?_ | refine G.shr (by omega) ?_ | refine G.conv (by omega) ?_ | refine G.step ?_ | refine G.buildA (by rfl) ?_ | (refine Gs.box ?_; intro _) | (refine Gs.alloc ?_; intro _) | refine Gs.store ?_ | refine G.retc ?_ | refine Gs.dr ?_ | refine G.qadd (by omega) ?_ | refine G.qsub (by omega) ?_ | refine G.qmul (by omega) ?_ | refine G.qkp ?_ | refine Gs.qkb ?_ | refine G.withT ?_ | refine Gs.withb ?_ | refine G.ift ?_ | refine G.iff ?_ | refine G.gdtt ?_ | refine G.gdff ?_ | refine G.gdtf ?_ | refine G.gdft ?_ | refine G.jn ?_ | (refine G.jk ?_; intro _))); repeat (any_goals ((first | (refine G.ifd ?_ ?_ <;> intro _) | (refine G.ifb ?_ ?_ <;> intro _) | (refine G.gddt ?_ ?_ <;> intro _) | (refine G.gddf ?_ ?_ <;> intro _) | (refine G.gdbt ?_ ?_ <;> intro _) | (refine G.gdbf ?_ ?_ <;> intro _)) <;> (try (exfalso; omega; done)) <;> (repeat (first | refine G.add (by omega) ?_ | refine G.sub (by omega) ?_ | refine G.mul (by omega) ?_ | refine G.neg (by omega) ?_ | refine G.quo (by omega) (by omega) ?_ | refine G.rem (by omega) ?_ | refine G.shr (by omega) ?_ | refine G.conv (by omega) ?_ | refine G.step ?_ | refine G.buildA (by rfl) ?_ | (refine Gs.box ?_; intro _) | (refine Gs.alloc ?_; intro _) | refine Gs.store ?_ | refine G.retc ?_ | refine Gs.dr ?_ | refine G.qadd (by omega) ?_ | refine G.qsub (by omega) ?_ | refine G.qmul (by omega) ?_ | refine G.qkp ?_ | refine Gs.qkb ?_ | refine G.withT ?_ | refine Gs.withb ?_ | refine G.ift ?_ | refine G.iff ?_ | refine G.gdtt ?_ | refine G.gdff ?_ | refine G.gdtf ?_ | refine G.gdft ?_ | refine G.jn ?_ | (refine G.jk ?_; intro _))))))
  · exact Gs.ret (by rw [made_out (by omega)])
  · exact Gs.ret (by rw [made_out (by omega)])
  · obtain ⟨k, rfl⟩ := Int.eq_ofNat_of_zero_le (by omega : 0 ≤ e)
    refine Gs.lp (β := Int × Nat) (fun b => (I b.1, I b.2)) (fun _ => h) (fun _ => _) (fun b => strip b.2 b.1 = strip k n ∧ b.2 ≤ 62 ∧ -9223372036854775808 ≤ b.1 ∧ b.1 ≤ 9223372036854775807) (fun b => b.2) (n, k) rfl ⟨rfl, by omega, hn, hn'⟩ (fun _ h => h) ?_
    rintro ⟨m, x⟩ ⟨hs, hx, hm, hm'⟩ cont hc
    dsimp only at *
    ((repeat (first | refine G.add (by omega) ?_ | refine G.sub (by omega) ?_ | refine G.mul (by omega) ?_ | refine G.neg (by omega) ?_ | refine G.quo (by omega) (by omega) ?_ | refine G.rem (by omega) ?_ | refine G.shr (by omega) ?_ | refine G.conv (by omega) ?_ | refine G.step ?_ | refine G.buildA (by rfl) ?_ | (refine Gs.box ?_; intro _) | (refine Gs.alloc ?_; intro _) | refine Gs.store ?_ | refine G.retc ?_ | refine Gs.dr ?_ | refine G.qadd (by omega) ?_ | refine G.qsub (by omega) ?_ | refine G.qmul (by omega) ?_ | refine G.qkp ?_ | refine Gs.qkb ?_ | refine G.withT ?_ | refine Gs.withb ?_ | refine G.ift ?_ | refine G.iff ?_ | refine G.gdtt ?_ | refine G.gdff ?_ | refine G.gdtf ?_ | refine G.gdft ?_ | refine G.jn ?_ | (refine G.jk ?_; intro _))); repeat (any_goals ((first | (refine G.ifd ?_ ?_ <;> intro _) | (refine G.ifb ?_ ?_ <;> intro _) | (refine G.gddt ?_ ?_ <;> intro _) | (refine G.gddf ?_ ?_ <;> intro _) | (refine G.gdbt ?_ ?_ <;> intro _) | (refine G.gdbf ?_ ?_ <;> intro _)) <;> (try (exfalso; omega; done)) <;> (repeat (first | refine G.add (by omega) ?_ | refine G.sub (by omega) ?_ | refine G.mul (by omega) ?_ | refine G.neg (by omega) ?_ | refine G.quo (by omega) (by omega) ?_ | refine G.rem (by omega) ?_ | refine G.shr (by omega) ?_ | refine G.conv (by omega) ?_ | refine G.step ?_ | refine G.buildA (by rfl) ?_ | (refine Gs.box ?_; intro _) | (refine Gs.alloc ?_; intro _) | refine Gs.store ?_ | refine G.retc ?_ | refine Gs.dr ?_ | refine G.qadd (by omega) ?_ | refine G.qsub (by omega) ?_ | refine G.qmul (by omega) ?_ | refine G.qkp ?_ | refine Gs.qkb ?_ | refine G.withT ?_ | refine Gs.withb ?_ | refine G.ift ?_ | refine G.iff ?_ | refine G.gdtt ?_ | refine G.gdff ?_ | refine G.gdtf ?_ | refine G.gdft ?_ | refine G.jn ?_ | (refine G.jk ?_; intro _))))))
    · obtain ⟨y, rfl⟩ : ∃ y, x = y + 1 := ⟨x - 1, by omega⟩
      have h2 := (tmod2 m).1 ‹_›
      refine Gs.go (hc (m / 2, y) ⟨?_, by omega, by omega, by omega⟩ (by omega)) ?_
      · rw [← hs]; conv => rhs; unfold strip
        rw [if_pos h2]
      · rw [tdiv2 m h2, show ((y + 1 : Nat) : Int) - 1 = y by omega]
    all_goals
      have e : strip k n = (m, x) := hs.symm.trans (strip_of_odd x m (by have := tmod2 m; omega))
      have fin := made_of (by omega) e
      refine Gs.callv0 (rvalid_ok m x h) ?_
      ((repeat (first | refine G.add (by omega) ?_ | refine G.sub (by omega) ?_ | refine G.mul (by omega) ?_ | refine G.neg (by omega) ?_ | refine G.quo (by omega) (by omega) ?_ | refine G.rem (by omega) ?_ | refine G.shr (by omega) ?_ | refine G.conv (by omega) ?_ | refine G.step ?_ | refine G.buildA (by rfl) ?_ | (refine Gs.box ?_; intro _) | (refine Gs.alloc ?_; intro _) | refine Gs.store ?_ | refine G.retc ?_ | refine Gs.dr ?_ | refine G.qadd (by omega) ?_ | refine G.qsub (by omega) ?_ | refine G.qmul (by omega) ?_ | refine G.qkp ?_ | refine Gs.qkb ?_ | refine G.withT ?_ | refine Gs.withb ?_ | refine G.ift ?_ | refine G.iff ?_ | refine G.gdtt ?_ | refine G.gdff ?_ | refine G.gdtf ?_ | refine G.gdft ?_ | refine G.jn ?_ | (refine G.jk ?_; intro _))); repeat (any_goals ((first | (refine G.ifd ?_ ?_ <;> intro _) | (refine G.ifb ?_ ?_ <;> intro _) | (refine G.gddt ?_ ?_ <;> intro _) | (refine G.gddf ?_ ?_ <;> intro _) | (refine G.gdbt ?_ ?_ <;> intro _) | (refine G.gdbf ?_ ?_ <;> intro _)) <;> (try (exfalso; omega; done)) <;> (repeat (first | refine G.add (by omega) ?_ | refine G.sub (by omega) ?_ | refine G.mul (by omega) ?_ | refine G.neg (by omega) ?_ | refine G.quo (by omega) (by omega) ?_ | refine G.rem (by omega) ?_ | refine G.shr (by omega) ?_ | refine G.conv (by omega) ?_ | refine G.step ?_ | refine G.buildA (by rfl) ?_ | (refine Gs.box ?_; intro _) | (refine Gs.alloc ?_; intro _) | refine Gs.store ?_ | refine G.retc ?_ | refine Gs.dr ?_ | refine G.qadd (by omega) ?_ | refine G.qsub (by omega) ?_ | refine G.qmul (by omega) ?_ | refine G.qkp ?_ | refine Gs.qkb ?_ | refine G.withT ?_ | refine Gs.withb ?_ | refine G.ift ?_ | refine G.iff ?_ | refine G.gdtt ?_ | refine G.gdff ?_ | refine G.gdtf ?_ | refine G.gdft ?_ | refine G.jn ?_ | (refine G.jk ?_; intro _))))))
      all_goals
        refine Gs.ret ?_
        rw [fin]
        cases hv : validB m x <;> simp_all
end Go.Proofs.YtcapijkioaocmaaDoor
end

section
set_option linter.unusedVariables false
set_option maxHeartbeats 4000000
namespace Go.Proofs.YtcapijkioaocmaaDoor
open Go Go.Sk Go.Dy
theorem rmake_ok (n e : Int) (h : Hp) (hn : -9223372036854775808 ≤ n) (hn' : n ≤ 9223372036854775807) : Ct Tryd.prog 15 [I n, I e] h (fun _ v => v = Two (made n e)) := by
  refine ct15 ?_
  intro w0
  unfold s15
  (repeat (first | refine G.add (by omega) ?_ | refine G.sub (by omega) ?_ | refine G.mul (by omega) ?_ | refine G.neg (by omega) ?_ | refine G.quo (by omega) (by omega) ?_ | refine G.rem (by omega) ?_ | refine G.shr (by omega) ?_ | refine G.conv (by omega) ?_ | refine G.step ?_ | refine G.buildA (by rfl) ?_ | (refine Gs.box ?_; intro _) | (refine Gs.alloc ?_; intro _) | refine Gs.store ?_ | refine G.retc ?_ | refine Gs.dr ?_ | refine G.qadd (by omega) ?_ | refine G.qsub (by omega) ?_ | refine G.qmul (by omega) ?_ | refine G.qkp ?_ | refine Gs.qkb ?_ | refine G.withT ?_ | refine Gs.withb ?_ | refine G.ift ?_ | refine G.iff ?_ | refine G.gdtt ?_ | refine G.gdff ?_ | refine G.gdtf ?_ | refine G.gdft ?_ | (refine G.jk ?_; intro _)))
  refine Gs.callv0 (made_ok n e h hn hn') ?_
  (repeat (first | refine G.add (by omega) ?_ | refine G.sub (by omega) ?_ | refine G.mul (by omega) ?_ | refine G.neg (by omega) ?_ | refine G.quo (by omega) (by omega) ?_ | refine G.rem (by omega) ?_ | refine G.shr (by omega) ?_ | refine G.conv (by omega) ?_ | refine G.step ?_ | refine G.buildA (by rfl) ?_ | (refine Gs.box ?_; intro _) | (refine Gs.alloc ?_; intro _) | refine Gs.store ?_ | refine G.retc ?_ | refine Gs.dr ?_ | refine G.qadd (by omega) ?_ | refine G.qsub (by omega) ?_ | refine G.qmul (by omega) ?_ | refine G.qkp ?_ | refine Gs.qkb ?_ | refine G.withT ?_ | refine Gs.withb ?_ | refine G.ift ?_ | refine G.iff ?_ | refine G.gdtt ?_ | refine G.gdff ?_ | refine G.gdtf ?_ | refine G.gdft ?_ | (refine G.jk ?_; intro _)))
  exact Gs.ret rfl
theorem whole_ok (n : Int) (e : Nat) (h : Hp) (he : e ≤ 30) (hn : -1099511627776 ≤ n) (hn' : n ≤ 1099511627776) : Ct Tryd.prog 39 [Fr2 n e] h (fun _ v => v = .tuple #[I (wh n e), I (rs n e)]) := by
  refine ct39 ?_
  intro w0
  unfold s39
  have hp := two_pow_pos e
  have hf := tdiv_floor n (2 ^ e) hp
  have hrb := rs_bd n e he
  have hwb := wh_bd n e 1099511627776 hn hn' (by decide)
  have hp30 : (2 : Int) ^ e ≤ 1073741824 := by have := two_pow_le he; simpa using this
  have hq := tdiv_in hp (a := n) ⟨by omega, by omega⟩
  have hr1 : n.tmod (2 ^ e) < 2 ^ e := Int.tmod_lt_of_pos n hp
  have hr2 : -(2 ^ e) < n.tmod (2 ^ e) := by
    have h4 := Int.tmod_lt_of_pos (-n) hp
    rw [Int.neg_tmod] at h4
    omega
  (repeat (first | refine G.add (by omega) ?_ | refine G.sub (by omega) ?_ | refine G.mul (by omega) ?_ | refine G.neg (by omega) ?_ | refine G.quo (by omega) (by omega) ?_ | refine G.rem (by omega) ?_ | refine G.shr (by omega) ?_ | refine G.conv (by omega) ?_ | refine G.step ?_ | refine G.buildA (by rfl) ?_ | (refine Gs.box ?_; intro _) | (refine Gs.alloc ?_; intro _) | refine Gs.store ?_ | refine G.retc ?_ | refine Gs.dr ?_ | refine G.qadd (by omega) ?_ | refine G.qsub (by omega) ?_ | refine G.qmul (by omega) ?_ | refine G.qkp ?_ | refine Gs.qkb ?_ | refine G.withT ?_ | refine Gs.withb ?_ | refine G.ift ?_ | refine G.iff ?_ | refine G.gdtt ?_ | refine G.gdff ?_ | refine G.gdtf ?_ | refine G.gdft ?_ | (refine G.jk ?_; intro _)))
  refine Gs.callv0 (power_ok e h (by omega)) ?_
  refine G.step ?_
  refine G.step ?_
  refine G.quo (by omega) (by omega) ?_
  refine G.step ?_
  refine G.step ?_
  refine G.rem (by omega) ?_
  refine G.jn ?_
  unfold wh at hwb
  unfold rs at hrb
  obtain ⟨hf1, hf2⟩ := hf
  ((repeat (first | refine G.add (by omega) ?_ | refine G.sub (by omega) ?_ | refine G.mul (by omega) ?_ | refine G.neg (by omega) ?_ | refine G.quo (by omega) (by omega) ?_ | refine G.rem (by omega) ?_ | refine G.shr (by omega) ?_ | refine G.conv (by omega) ?_ | refine G.step ?_ | refine G.buildA (by rfl) ?_ | (refine Gs.box ?_; intro _) | (refine Gs.alloc ?_; intro _) | refine Gs.store ?_ | refine G.retc ?_ | refine Gs.dr ?_ | refine G.qadd (by omega) ?_ | refine G.qsub (by omega) ?_ | refine G.qmul (by omega) ?_ | refine G.qkp ?_ | refine Gs.qkb ?_ | refine G.withT ?_ | refine Gs.withb ?_ | refine G.ift ?_ | refine G.iff ?_ | refine G.gdtt ?_ | refine G.gdff ?_ | refine G.gdtf ?_ | refine G.gdft ?_ | refine G.jn ?_ | (refine G.jk ?_; intro _))); repeat (any_goals ((first | (refine G.ifd ?_ ?_ <;> intro _) | (refine G.ifb ?_ ?_ <;> intro _) | (refine G.gddt ?_ ?_ <;> intro _) | (refine G.gddf ?_ ?_ <;> intro _) | (refine G.gdbt ?_ ?_ <;> intro _) | (refine G.gdbf ?_ ?_ <;> intro _)) <;> (try (exfalso; omega; done)) <;> (repeat (first | refine G.add (by omega) ?_ | refine G.sub (by omega) ?_ | refine G.mul (by omega) ?_ | refine G.neg (by omega) ?_ | refine G.quo (by omega) (by omega) ?_ | refine G.rem (by omega) ?_ | refine G.shr (by omega) ?_ | refine G.conv (by omega) ?_ | refine G.step ?_ | refine G.buildA (by rfl) ?_ | (refine Gs.box ?_; intro _) | (refine Gs.alloc ?_; intro _) | refine Gs.store ?_ | refine G.retc ?_ | refine Gs.dr ?_ | refine G.qadd (by omega) ?_ | refine G.qsub (by omega) ?_ | refine G.qmul (by omega) ?_ | refine G.qkp ?_ | refine Gs.qkb ?_ | refine G.withT ?_ | refine Gs.withb ?_ | refine G.ift ?_ | refine G.iff ?_ | refine G.gdtt ?_ | refine G.gdff ?_ | refine G.gdtf ?_ | refine G.gdft ?_ | refine G.jn ?_ | (refine G.jk ?_; intro _))))))
  all_goals
    refine Gs.callv0 (power_oki (30 - e) h (by omega) (by omega)) ?_
    rw [show (30 - (e : Int)).toNat = 30 - e by omega]
    simp only [*, if_true, if_false] at hf1 hf2
    try rw [hf1, hf2]
    refine G.mul (by omega) ?_
    refine Gs.ret ?_
    unfold wh rs
    rfl
theorem rcompare_ok (n : Int) (e : Nat) (m : Int) (f : Nat) (h : Hp) (he : Valid n e) (hf : Valid m f) : Ct Tryd.prog 24 [Fr2 n e, Fr2 m f] h (fun _ v => v = I (cmpF n e m f)) := by
  obtain ⟨he, hn, hn', _⟩ := he
  obtain ⟨hf, hm, hm', _⟩ := hf
  refine ct24 ?_
  intro w0
  unfold s24
  (repeat (first | refine G.add (by omega) ?_ | refine G.sub (by omega) ?_ | refine G.mul (by omega) ?_ | refine G.neg (by omega) ?_ | refine G.quo (by omega) (by omega) ?_ | refine G.rem (by omega) ?_ | refine G.shr (by omega) ?_ | refine G.conv (by omega) ?_ | refine G.step ?_ | refine G.buildA (by rfl) ?_ | (refine Gs.box ?_; intro _) | (refine Gs.alloc ?_; intro _) | refine Gs.store ?_ | refine G.retc ?_ | refine Gs.dr ?_ | refine G.qadd (by omega) ?_ | refine G.qsub (by omega) ?_ | refine G.qmul (by omega) ?_ | refine G.qkp ?_ | refine Gs.qkb ?_ | refine G.withT ?_ | refine Gs.withb ?_ | refine G.ift ?_ | refine G.iff ?_ | refine G.gdtt ?_ | refine G.gdff ?_ | refine G.gdtf ?_ | refine G.gdft ?_ | (refine G.jk ?_; intro _)))
  refine Gs.callv0 (whole_ok n e h he hn hn') ?_
  (repeat (first | refine G.add (by omega) ?_ | refine G.sub (by omega) ?_ | refine G.mul (by omega) ?_ | refine G.neg (by omega) ?_ | refine G.quo (by omega) (by omega) ?_ | refine G.rem (by omega) ?_ | refine G.shr (by omega) ?_ | refine G.conv (by omega) ?_ | refine G.step ?_ | refine G.buildA (by rfl) ?_ | (refine Gs.box ?_; intro _) | (refine Gs.alloc ?_; intro _) | refine Gs.store ?_ | refine G.retc ?_ | refine Gs.dr ?_ | refine G.qadd (by omega) ?_ | refine G.qsub (by omega) ?_ | refine G.qmul (by omega) ?_ | refine G.qkp ?_ | refine Gs.qkb ?_ | refine G.withT ?_ | refine Gs.withb ?_ | refine G.ift ?_ | refine G.iff ?_ | refine G.gdtt ?_ | refine G.gdff ?_ | refine G.gdtf ?_ | refine G.gdft ?_ | (refine G.jk ?_; intro _)))
  refine Gs.callv0 (whole_ok m f h hf hm hm') ?_
  ((repeat (first | refine G.add (by omega) ?_ | refine G.sub (by omega) ?_ | refine G.mul (by omega) ?_ | refine G.neg (by omega) ?_ | refine G.quo (by omega) (by omega) ?_ | refine G.rem (by omega) ?_ | refine G.shr (by omega) ?_ | refine G.conv (by omega) ?_ | refine G.step ?_ | refine G.buildA (by rfl) ?_ | (refine Gs.box ?_; intro _) | (refine Gs.alloc ?_; intro _) | refine Gs.store ?_ | refine G.retc ?_ | refine Gs.dr ?_ | refine G.qadd (by omega) ?_ | refine G.qsub (by omega) ?_ | refine G.qmul (by omega) ?_ | refine G.qkp ?_ | refine Gs.qkb ?_ | refine G.withT ?_ | refine Gs.withb ?_ | refine G.ift ?_ | refine G.iff ?_ | refine G.gdtt ?_ | refine G.gdff ?_ | refine G.gdtf ?_ | refine G.gdft ?_ | refine G.jn ?_ | (refine G.jk ?_; intro _))); repeat (any_goals ((first | (refine G.ifd ?_ ?_ <;> intro _) | (refine G.ifb ?_ ?_ <;> intro _) | (refine G.gddt ?_ ?_ <;> intro _) | (refine G.gddf ?_ ?_ <;> intro _) | (refine G.gdbt ?_ ?_ <;> intro _) | (refine G.gdbf ?_ ?_ <;> intro _)) <;> (try (exfalso; omega; done)) <;> (repeat (first | refine G.add (by omega) ?_ | refine G.sub (by omega) ?_ | refine G.mul (by omega) ?_ | refine G.neg (by omega) ?_ | refine G.quo (by omega) (by omega) ?_ | refine G.rem (by omega) ?_ | refine G.shr (by omega) ?_ | refine G.conv (by omega) ?_ | refine G.step ?_ | refine G.buildA (by rfl) ?_ | (refine Gs.box ?_; intro _) | (refine Gs.alloc ?_; intro _) | refine Gs.store ?_ | refine G.retc ?_ | refine Gs.dr ?_ | refine G.qadd (by omega) ?_ | refine G.qsub (by omega) ?_ | refine G.qmul (by omega) ?_ | refine G.qkp ?_ | refine Gs.qkb ?_ | refine G.withT ?_ | refine Gs.withb ?_ | refine G.ift ?_ | refine G.iff ?_ | refine G.gdtt ?_ | refine G.gdff ?_ | refine G.gdtf ?_ | refine G.gdft ?_ | refine G.jn ?_ | (refine G.jk ?_; intro _))))))
  all_goals
    refine Gs.ret ?_
    unfold cmpF cmpI
    congr 1
    split <;> (try split) <;> (try split) <;> omega
end Go.Proofs.YtcapijkioaocmaaDoor
end

section
set_option linter.unusedVariables false
set_option maxHeartbeats 4000000
namespace Go.Proofs.YtcapijkioaocmaaDoor
open Go Go.Sk Go.Dy
theorem isNaN_ok (a : Int) (h : Hp) : Ct Tryd.prog 51 [I a] h (fun _ v => v = .bool false) := by
  refine ct51 ?_
  intro w0
  unfold s51
  (repeat (first | refine G.add (by omega) ?_ | refine G.sub (by omega) ?_ | refine G.mul (by omega) ?_ | refine G.neg (by omega) ?_ | refine G.quo (by omega) (by omega) ?_ | refine G.rem (by omega) ?_ | refine G.shr (by omega) ?_ | refine G.conv (by omega) ?_ | refine G.step ?_ | refine G.buildA (by rfl) ?_ | (refine Gs.box ?_; intro _) | (refine Gs.alloc ?_; intro _) | refine Gs.store ?_ | refine G.retc ?_ | refine Gs.dr ?_ | refine G.qadd (by omega) ?_ | refine G.qsub (by omega) ?_ | refine G.qmul (by omega) ?_ | refine G.qkp ?_ | refine Gs.qkb ?_ | refine G.withT ?_ | refine Gs.withb ?_ | refine G.ift ?_ | refine G.iff ?_ | refine G.gdtt ?_ | refine G.gdff ?_ | refine G.gdtf ?_ | refine G.gdft ?_ | (refine G.jk ?_; intro _)))
  exact Gs.ret (by simp)
theorem cmp_ok (a b : Int) (h : Hp) : Ct Tryd.prog 38 [I a, I b] h (fun _ v => v = I (cmpI a b)) := by
  refine ct38 ?_
  intro w0
  unfold s38
  refine Gs.callv0 (isNaN_ok a h) ?_
  refine Gs.callv0 (isNaN_ok b h) ?_
  ((repeat (first | refine G.add (by omega) ?_ | refine G.sub (by omega) ?_ | refine G.mul (by omega) ?_ | refine G.neg (by omega) ?_ | refine G.quo (by omega) (by omega) ?_ | refine G.rem (by omega) ?_ | refine G.shr (by omega) ?_ | refine G.conv (by omega) ?_ | refine G.step ?_ | refine G.buildA (by rfl) ?_ | (refine Gs.box ?_; intro _) | (refine Gs.alloc ?_; intro _) | refine Gs.store ?_ | refine G.retc ?_ | refine Gs.dr ?_ | refine G.qadd (by omega) ?_ | refine G.qsub (by omega) ?_ | refine G.qmul (by omega) ?_ | refine G.qkp ?_ | refine Gs.qkb ?_ | refine G.withT ?_ | refine Gs.withb ?_ | refine G.ift ?_ | refine G.iff ?_ | refine G.gdtt ?_ | refine G.gdff ?_ | refine G.gdtf ?_ | refine G.gdft ?_ | refine G.jn ?_ | (refine G.jk ?_; intro _))); repeat (any_goals ((first | (refine G.ifd ?_ ?_ <;> intro _) | (refine G.ifb ?_ ?_ <;> intro _) | (refine G.gddt ?_ ?_ <;> intro _) | (refine G.gddf ?_ ?_ <;> intro _) | (refine G.gdbt ?_ ?_ <;> intro _) | (refine G.gdbf ?_ ?_ <;> intro _)) <;> (try (exfalso; omega; done)) <;> (repeat (first | refine G.add (by omega) ?_ | refine G.sub (by omega) ?_ | refine G.mul (by omega) ?_ | refine G.neg (by omega) ?_ | refine G.quo (by omega) (by omega) ?_ | refine G.rem (by omega) ?_ | refine G.shr (by omega) ?_ | refine G.conv (by omega) ?_ | refine G.step ?_ | refine G.buildA (by rfl) ?_ | (refine Gs.box ?_; intro _) | (refine Gs.alloc ?_; intro _) | refine Gs.store ?_ | refine G.retc ?_ | refine Gs.dr ?_ | refine G.qadd (by omega) ?_ | refine G.qsub (by omega) ?_ | refine G.qmul (by omega) ?_ | refine G.qkp ?_ | refine Gs.qkb ?_ | refine G.withT ?_ | refine Gs.withb ?_ | refine G.ift ?_ | refine G.iff ?_ | refine G.gdtt ?_ | refine G.gdff ?_ | refine G.gdtf ?_ | refine G.gdft ?_ | refine G.jn ?_ | (refine G.jk ?_; intro _))))))
  all_goals
    refine Gs.ret ?_
    unfold cmpI
    congr 1
    split <;> (try split) <;> omega
def orL : List Int → Int
  | [] => 0
  | a :: r => if a ≠ 0 then a else orL r
theorem or_ok (l : List Int) (v : Value) (h : Hp) (hl : l.length ≤ 1000) (hr : Rd h v 1 l.length (l.map I)) : Ct Tryd.prog 37 [v] h (fun _ r => r = I (orL l)) := by
  refine ct37 ?_
  intro w0
  unfold s37
  refine Gs.len hr (by omega) ?_
  refine Gs.lp (β := Nat) (fun k => I k) (fun _ => h) (fun _ => []) (fun k => k ≤ l.length ∧ orL (l.drop k) = orL l) (fun k => l.length - k) 0 rfl ⟨Nat.zero_le _, rfl⟩ (fun _ h => h) ?_
  rintro k ⟨hk, ho⟩ cont hc
  (repeat (first | refine G.add (by omega) ?_ | refine G.sub (by omega) ?_ | refine G.mul (by omega) ?_ | refine G.neg (by omega) ?_ | refine G.quo (by omega) (by omega) ?_ | refine G.rem (by omega) ?_ | refine G.shr (by omega) ?_ | refine G.conv (by omega) ?_ | refine G.step ?_ | refine G.buildA (by rfl) ?_ | (refine Gs.box ?_; intro _) | (refine Gs.alloc ?_; intro _) | refine Gs.store ?_ | refine G.retc ?_ | refine Gs.dr ?_ | refine G.qadd (by omega) ?_ | refine G.qsub (by omega) ?_ | refine G.qmul (by omega) ?_ | refine G.qkp ?_ | refine Gs.qkb ?_ | refine G.withT ?_ | refine Gs.withb ?_ | refine G.ift ?_ | refine G.iff ?_ | refine G.gdtt ?_ | refine G.gdff ?_ | refine G.gdtf ?_ | refine G.gdft ?_ | (refine G.jk ?_; intro _)))
  refine G.ifd ?_ ?_ <;> intro hlt
  · have hlt : k < l.length := by omega
    refine Gs.index hr ⟨by omega, by omega⟩ ?_
    intro b o hp
    have hch : chunk (l.map I) 1 (k : Int).toNat = [I l[k]] := by
      unfold chunk
      rw [Int.toNat_natCast, Nat.mul_one, ← List.map_drop, List.drop_eq_getElem_cons hlt]; rfl
    rw [hch] at hp
    refine Gs.loadP1 hp ?_
    rw [List.drop_eq_getElem_cons hlt] at ho
    replace ho : (if l[k] ≠ 0 then l[k] else orL (l.drop (k + 1))) = orL l := ho
    ((repeat (first | refine G.add (by omega) ?_ | refine G.sub (by omega) ?_ | refine G.mul (by omega) ?_ | refine G.neg (by omega) ?_ | refine G.quo (by omega) (by omega) ?_ | refine G.rem (by omega) ?_ | refine G.shr (by omega) ?_ | refine G.conv (by omega) ?_ | refine G.step ?_ | refine G.buildA (by rfl) ?_ | (refine Gs.box ?_; intro _) | (refine Gs.alloc ?_; intro _) | refine Gs.store ?_ | refine G.retc ?_ | refine Gs.dr ?_ | refine G.qadd (by omega) ?_ | refine G.qsub (by omega) ?_ | refine G.qmul (by omega) ?_ | refine G.qkp ?_ | refine Gs.qkb ?_ | refine G.withT ?_ | refine Gs.withb ?_ | refine G.ift ?_ | refine G.iff ?_ | refine G.gdtt ?_ | refine G.gdff ?_ | refine G.gdtf ?_ | refine G.gdft ?_ | refine G.jn ?_ | (refine G.jk ?_; intro _))); repeat (any_goals ((first | (refine G.ifd ?_ ?_ <;> intro _) | (refine G.ifb ?_ ?_ <;> intro _) | (refine G.gddt ?_ ?_ <;> intro _) | (refine G.gddf ?_ ?_ <;> intro _) | (refine G.gdbt ?_ ?_ <;> intro _) | (refine G.gdbf ?_ ?_ <;> intro _)) <;> (try (exfalso; omega; done)) <;> (repeat (first | refine G.add (by omega) ?_ | refine G.sub (by omega) ?_ | refine G.mul (by omega) ?_ | refine G.neg (by omega) ?_ | refine G.quo (by omega) (by omega) ?_ | refine G.rem (by omega) ?_ | refine G.shr (by omega) ?_ | refine G.conv (by omega) ?_ | refine G.step ?_ | refine G.buildA (by rfl) ?_ | (refine Gs.box ?_; intro _) | (refine Gs.alloc ?_; intro _) | refine Gs.store ?_ | refine G.retc ?_ | refine Gs.dr ?_ | refine G.qadd (by omega) ?_ | refine G.qsub (by omega) ?_ | refine G.qmul (by omega) ?_ | refine G.qkp ?_ | refine Gs.qkb ?_ | refine G.withT ?_ | refine Gs.withb ?_ | refine G.ift ?_ | refine G.iff ?_ | refine G.gdtt ?_ | refine G.gdff ?_ | refine G.gdtf ?_ | refine G.gdft ?_ | refine G.jn ?_ | (refine G.jk ?_; intro _))))))
    · refine Gs.ret ?_
      rw [← ho, if_pos (by assumption)]
    · refine Gs.go (hc (k + 1) ⟨by omega, ?_⟩ (by omega)) rfl
      rw [← ho, if_neg (by assumption)]
  · refine Gs.ret ?_
    rw [← ho, List.drop_eq_nil_of_le (by omega)]; rfl
theorem rest_ok (n : Int) (e : Nat) (h : Hp) (he : e ≤ 30) : Ct Tryd.prog 35 [Fr2 n e] h (fun _ v => v = I (rs n e)) := by
  refine ct35 ?_
  intro w0
  unfold s35
  have hp := two_pow_pos e
  have hrb := rs_bd n e he
  have hp30 : (2 : Int) ^ e ≤ 1073741824 := by have := two_pow_le he; simpa using this
  (repeat (first | refine G.add (by omega) ?_ | refine G.sub (by omega) ?_ | refine G.mul (by omega) ?_ | refine G.neg (by omega) ?_ | refine G.quo (by omega) (by omega) ?_ | refine G.rem (by omega) ?_ | refine G.shr (by omega) ?_ | refine G.conv (by omega) ?_ | refine G.step ?_ | refine G.buildA (by rfl) ?_ | (refine Gs.box ?_; intro _) | (refine Gs.alloc ?_; intro _) | refine Gs.store ?_ | refine G.retc ?_ | refine Gs.dr ?_ | refine G.qadd (by omega) ?_ | refine G.qsub (by omega) ?_ | refine G.qmul (by omega) ?_ | refine G.qkp ?_ | refine Gs.qkb ?_ | refine G.withT ?_ | refine Gs.withb ?_ | refine G.ift ?_ | refine G.iff ?_ | refine G.gdtt ?_ | refine G.gdff ?_ | refine G.gdtf ?_ | refine G.gdft ?_ | (refine G.jk ?_; intro _)))
  haveI := Yd.shl (P := Tryd.prog) (S := TrueC) (t := 3) (yk := .i64) (a := 1) (y := e) ⟨by omega, by omega⟩ (by rw [Int.toNat_natCast]; omega)
  refine G.qkp ?_
  rw [Int.toNat_natCast, Int.one_mul]
  refine G.qsub (by omega) ?_
  haveI := Yd.land (P := Tryd.prog) (S := TrueC) (t := 3) (a := n) (b := 2 ^ e - 1) e (by omega) rfl
  (repeat (first | refine G.add (by omega) ?_ | refine G.sub (by omega) ?_ | refine G.mul (by omega) ?_ | refine G.neg (by omega) ?_ | refine G.quo (by omega) (by omega) ?_ | refine G.rem (by omega) ?_ | refine G.shr (by omega) ?_ | refine G.conv (by omega) ?_ | refine G.step ?_ | refine G.buildA (by rfl) ?_ | (refine Gs.box ?_; intro _) | (refine Gs.alloc ?_; intro _) | refine Gs.store ?_ | refine G.retc ?_ | refine Gs.dr ?_ | refine G.qadd (by omega) ?_ | refine G.qsub (by omega) ?_ | refine G.qmul (by omega) ?_ | refine G.qkp ?_ | refine Gs.qkb ?_ | refine G.withT ?_ | refine Gs.withb ?_ | refine G.ift ?_ | refine G.iff ?_ | refine G.gdtt ?_ | refine G.gdff ?_ | refine G.gdtf ?_ | refine G.gdft ?_ | (refine G.jk ?_; intro _)))
  have e1 : (30 - (e : Int)).toNat = 30 - e := by omega
  haveI := Yd.shl (P := Tryd.prog) (S := TrueC) (t := 3) (yk := .i64) (a := n % 2 ^ e) (y := 30 - e) ⟨by omega, by omega⟩ (by rw [e1]; unfold rs at hrb; omega)
  (repeat (first | refine G.add (by omega) ?_ | refine G.sub (by omega) ?_ | refine G.mul (by omega) ?_ | refine G.neg (by omega) ?_ | refine G.quo (by omega) (by omega) ?_ | refine G.rem (by omega) ?_ | refine G.shr (by omega) ?_ | refine G.conv (by omega) ?_ | refine G.step ?_ | refine G.buildA (by rfl) ?_ | (refine Gs.box ?_; intro _) | (refine Gs.alloc ?_; intro _) | refine Gs.store ?_ | refine G.retc ?_ | refine Gs.dr ?_ | refine G.qadd (by omega) ?_ | refine G.qsub (by omega) ?_ | refine G.qmul (by omega) ?_ | refine G.qkp ?_ | refine Gs.qkb ?_ | refine G.withT ?_ | refine Gs.withb ?_ | refine G.ift ?_ | refine G.iff ?_ | refine G.gdtt ?_ | refine G.gdff ?_ | refine G.gdtf ?_ | refine G.gdft ?_ | (refine G.jk ?_; intro _)))
  refine Gs.ret ?_
  rw [e1]; unfold rs; rfl
def flP (n : Int) (e x : Nat) : Int :=
  if x ≤ e then n / 2 ^ (e - x) else if 1099511627776 / 2 ^ (x - e) < n then 1099511627777 else if n < -(1099511627776 / 2 ^ (x - e)) then -1099511627778 else n * 2 ^ (x - e)
theorem floor_ok (n : Int) (e x : Nat) (h : Hp) (he : e ≤ 30) (hx : x ≤ 30) : Ct Tryd.prog 34 [Fr2 n e, I x] h (fun _ v => v = I (flP n e x)) := by
  refine ct34 ?_
  intro w0
  unfold s34
  (repeat (first | refine G.add (by omega) ?_ | refine G.sub (by omega) ?_ | refine G.mul (by omega) ?_ | refine G.neg (by omega) ?_ | refine G.quo (by omega) (by omega) ?_ | refine G.rem (by omega) ?_ | refine G.shr (by omega) ?_ | refine G.conv (by omega) ?_ | refine G.step ?_ | refine G.buildA (by rfl) ?_ | (refine Gs.box ?_; intro _) | (refine Gs.alloc ?_; intro _) | refine Gs.store ?_ | refine G.retc ?_ | refine Gs.dr ?_ | refine G.qadd (by omega) ?_ | refine G.qsub (by omega) ?_ | refine G.qmul (by omega) ?_ | refine G.qkp ?_ | refine Gs.qkb ?_ | refine G.withT ?_ | refine Gs.withb ?_ | refine G.ift ?_ | refine G.iff ?_ | refine G.gdtt ?_ | refine G.gdff ?_ | refine G.gdtf ?_ | refine G.gdft ?_ | (refine G.jk ?_; intro _)))
  refine G.ifd ?_ ?_ <;> intro hc
  · (repeat (first | refine G.add (by omega) ?_ | refine G.sub (by omega) ?_ | refine G.mul (by omega) ?_ | refine G.neg (by omega) ?_ | refine G.quo (by omega) (by omega) ?_ | refine G.rem (by omega) ?_ | refine G.shr (by omega) ?_ | refine G.conv (by omega) ?_ | refine G.step ?_ | refine G.buildA (by rfl) ?_ | (refine Gs.box ?_; intro _) | (refine Gs.alloc ?_; intro _) | refine Gs.store ?_ | refine G.retc ?_ | refine Gs.dr ?_ | refine G.qadd (by omega) ?_ | refine G.qsub (by omega) ?_ | refine G.qmul (by omega) ?_ | refine G.qkp ?_ | refine Gs.qkb ?_ | refine G.withT ?_ | refine Gs.withb ?_ | refine G.ift ?_ | refine G.iff ?_ | refine G.gdtt ?_ | refine G.gdff ?_ | refine G.gdtf ?_ | refine G.gdft ?_ | (refine G.jk ?_; intro _)))
    refine Gs.ret ?_
    unfold flP
    rw [if_pos (by omega), show ((e : Int) - x).toNat = e - x by omega]
  · (repeat (first | refine G.add (by omega) ?_ | refine G.sub (by omega) ?_ | refine G.mul (by omega) ?_ | refine G.neg (by omega) ?_ | refine G.quo (by omega) (by omega) ?_ | refine G.rem (by omega) ?_ | refine G.shr (by omega) ?_ | refine G.conv (by omega) ?_ | refine G.step ?_ | refine G.buildA (by rfl) ?_ | (refine Gs.box ?_; intro _) | (refine Gs.alloc ?_; intro _) | refine Gs.store ?_ | refine G.retc ?_ | refine Gs.dr ?_ | refine G.qadd (by omega) ?_ | refine G.qsub (by omega) ?_ | refine G.qmul (by omega) ?_ | refine G.qkp ?_ | refine Gs.qkb ?_ | refine G.withT ?_ | refine Gs.withb ?_ | refine G.ift ?_ | refine G.iff ?_ | refine G.gdtt ?_ | refine G.gdff ?_ | refine G.gdtf ?_ | refine G.gdft ?_ | (refine G.jk ?_; intro _)))
    have e1 : ((x : Int) - e).toNat = x - e := by omega
    have hp := two_pow_pos (x - e)
    have hq : 0 ≤ 1099511627776 / (2 : Int) ^ (x - e) ∧ 1099511627776 / (2 : Int) ^ (x - e) ≤ 1099511627776 := ⟨Int.ediv_nonneg (by decide) (Int.le_of_lt hp), Int.ediv_le_self _ (by decide)⟩
    have hm : 1099511627776 / (2 : Int) ^ (x - e) * 2 ^ (x - e) ≤ 1099511627776 := Int.ediv_mul_le _ (by omega)
    rw [e1]
    unfold flP
    rw [if_neg (by omega)]
    generalize hQ : 1099511627776 / (2 : Int) ^ (x - e) = q at *
    ((repeat (first | refine G.add (by omega) ?_ | refine G.sub (by omega) ?_ | refine G.mul (by omega) ?_ | refine G.neg (by omega) ?_ | refine G.quo (by omega) (by omega) ?_ | refine G.rem (by omega) ?_ | refine G.shr (by omega) ?_ | refine G.conv (by omega) ?_ | refine G.step ?_ | refine G.buildA (by rfl) ?_ | (refine Gs.box ?_; intro _) | (refine Gs.alloc ?_; intro _) | refine Gs.store ?_ | refine G.retc ?_ | refine Gs.dr ?_ | refine G.qadd (by omega) ?_ | refine G.qsub (by omega) ?_ | refine G.qmul (by omega) ?_ | refine G.qkp ?_ | refine Gs.qkb ?_ | refine G.withT ?_ | refine Gs.withb ?_ | refine G.ift ?_ | refine G.iff ?_ | refine G.gdtt ?_ | refine G.gdff ?_ | refine G.gdtf ?_ | refine G.gdft ?_ | refine G.jn ?_ | (refine G.jk ?_; intro _))); repeat (any_goals ((first | (refine G.ifd ?_ ?_ <;> intro _) | (refine G.ifb ?_ ?_ <;> intro _) | (refine G.gddt ?_ ?_ <;> intro _) | (refine G.gddf ?_ ?_ <;> intro _) | (refine G.gdbt ?_ ?_ <;> intro _) | (refine G.gdbf ?_ ?_ <;> intro _)) <;> (try (exfalso; omega; done)) <;> (repeat (first | refine G.add (by omega) ?_ | refine G.sub (by omega) ?_ | refine G.mul (by omega) ?_ | refine G.neg (by omega) ?_ | refine G.quo (by omega) (by omega) ?_ | refine G.rem (by omega) ?_ | refine G.shr (by omega) ?_ | refine G.conv (by omega) ?_ | refine G.step ?_ | refine G.buildA (by rfl) ?_ | (refine Gs.box ?_; intro _) | (refine Gs.alloc ?_; intro _) | refine Gs.store ?_ | refine G.retc ?_ | refine Gs.dr ?_ | refine G.qadd (by omega) ?_ | refine G.qsub (by omega) ?_ | refine G.qmul (by omega) ?_ | refine G.qkp ?_ | refine Gs.qkb ?_ | refine G.withT ?_ | refine Gs.withb ?_ | refine G.ift ?_ | refine G.iff ?_ | refine G.gdtt ?_ | refine G.gdff ?_ | refine G.gdtf ?_ | refine G.gdft ?_ | refine G.jn ?_ | (refine G.jk ?_; intro _))))))
    · exact Gs.ret (by rw [if_pos (by assumption)])
    · exact Gs.ret (by rw [if_neg (by assumption), if_pos (by assumption)])
    · have b1 : n * 2 ^ (x - e) ≤ q * 2 ^ (x - e) := Int.mul_le_mul_of_nonneg_right (by omega) (by omega)
      have b2 : -q * 2 ^ (x - e) ≤ n * 2 ^ (x - e) := Int.mul_le_mul_of_nonneg_right (by omega) (by omega)
      rw [Int.neg_mul] at b2
      refine G.shl (by omega) (by rw [e1]; omega) ?_
      exact Gs.ret (by rw [if_neg (by assumption), if_neg (by assumption), e1])
theorem floor0 (n : Int) (e : Nat) : flP n e 0 = wh n e := by unfold flP wh; rw [if_pos (Nat.zero_le _)]; rfl
theorem abs_ok (n : Int) (h : Hp) (hn : -9223372036854775807 ≤ n) (hn' : n ≤ 9223372036854775807) : Ct Tryd.prog 40 [I n] h (fun _ v => v = I (max n (-n))) := by
  refine ct40 ?_
  intro w0
  unfold s40
  (repeat (first | refine G.add (by omega) ?_ | refine G.sub (by omega) ?_ | refine G.mul (by omega) ?_ | refine G.neg (by omega) ?_ | refine G.quo (by omega) (by omega) ?_ | refine G.rem (by omega) ?_ | refine G.shr (by omega) ?_ | refine G.conv (by omega) ?_ | refine G.step ?_ | refine G.buildA (by rfl) ?_ | (refine Gs.box ?_; intro _) | (refine Gs.alloc ?_; intro _) | refine Gs.store ?_ | refine G.retc ?_ | refine Gs.dr ?_ | refine G.qadd (by omega) ?_ | refine G.qsub (by omega) ?_ | refine G.qmul (by omega) ?_ | refine G.qkp ?_ | refine Gs.qkb ?_ | refine G.withT ?_ | refine Gs.withb ?_ | refine G.ift ?_ | refine G.iff ?_ | refine G.gdtt ?_ | refine G.gdff ?_ | refine G.gdtf ?_ | refine G.gdft ?_ | (refine G.jk ?_; intro _)))
  exact Gs.ret rfl
theorem compare_ok (n : Int) (e : Nat) (m : Int) (f : Nat) (h : Hp) (he : Valid n e) (hf : Valid m f) : Ct Tryd.prog 23 [Fr2 n e, Fr2 m f] h (fun _ v => v = I (cmpF n e m f)) := by
  obtain ⟨he, hn, hn', _⟩ := he
  obtain ⟨hf, hm, hm', _⟩ := hf
  refine ct23 ?_
  intro w0
  unfold s23
  (repeat (first | refine G.add (by omega) ?_ | refine G.sub (by omega) ?_ | refine G.mul (by omega) ?_ | refine G.neg (by omega) ?_ | refine G.quo (by omega) (by omega) ?_ | refine G.rem (by omega) ?_ | refine G.shr (by omega) ?_ | refine G.conv (by omega) ?_ | refine G.step ?_ | refine G.buildA (by rfl) ?_ | (refine Gs.box ?_; intro _) | (refine Gs.alloc ?_; intro _) | refine Gs.store ?_ | refine G.retc ?_ | refine Gs.dr ?_ | refine G.qadd (by omega) ?_ | refine G.qsub (by omega) ?_ | refine G.qmul (by omega) ?_ | refine G.qkp ?_ | refine Gs.qkb ?_ | refine G.withT ?_ | refine Gs.withb ?_ | refine G.ift ?_ | refine G.iff ?_ | refine G.gdtt ?_ | refine G.gdff ?_ | refine G.gdtf ?_ | refine G.gdft ?_ | refine G.jn ?_ | (refine G.jk ?_; intro _)))
  refine G.or2 ?_ ?_
  all_goals
    (repeat (first | refine G.add (by omega) ?_ | refine G.sub (by omega) ?_ | refine G.mul (by omega) ?_ | refine G.neg (by omega) ?_ | refine G.quo (by omega) (by omega) ?_ | refine G.rem (by omega) ?_ | refine G.shr (by omega) ?_ | refine G.conv (by omega) ?_ | refine G.step ?_ | refine G.buildA (by rfl) ?_ | (refine Gs.box ?_; intro _) | (refine Gs.alloc ?_; intro _) | refine Gs.store ?_ | refine G.retc ?_ | refine Gs.dr ?_ | refine G.qadd (by omega) ?_ | refine G.qsub (by omega) ?_ | refine G.qmul (by omega) ?_ | refine G.qkp ?_ | refine Gs.qkb ?_ | refine G.withT ?_ | refine Gs.withb ?_ | refine G.ift ?_ | refine G.iff ?_ | refine G.gdtt ?_ | refine G.gdff ?_ | refine G.gdtf ?_ | refine G.gdft ?_ | refine G.jn ?_ | (refine G.jk ?_; intro _)))
    refine Gs.callv0 (floor_ok n e 0 h he (by omega)) ?_
    (repeat (first | refine G.add (by omega) ?_ | refine G.sub (by omega) ?_ | refine G.mul (by omega) ?_ | refine G.neg (by omega) ?_ | refine G.quo (by omega) (by omega) ?_ | refine G.rem (by omega) ?_ | refine G.shr (by omega) ?_ | refine G.conv (by omega) ?_ | refine G.step ?_ | refine G.buildA (by rfl) ?_ | (refine Gs.box ?_; intro _) | (refine Gs.alloc ?_; intro _) | refine Gs.store ?_ | refine G.retc ?_ | refine Gs.dr ?_ | refine G.qadd (by omega) ?_ | refine G.qsub (by omega) ?_ | refine G.qmul (by omega) ?_ | refine G.qkp ?_ | refine Gs.qkb ?_ | refine G.withT ?_ | refine Gs.withb ?_ | refine G.ift ?_ | refine G.iff ?_ | refine G.gdtt ?_ | refine G.gdff ?_ | refine G.gdtf ?_ | refine G.gdft ?_ | (refine G.jk ?_; intro _)))
    refine Gs.callv0 (floor_ok m f 0 h hf (by omega)) ?_
    (repeat (first | refine G.add (by omega) ?_ | refine G.sub (by omega) ?_ | refine G.mul (by omega) ?_ | refine G.neg (by omega) ?_ | refine G.quo (by omega) (by omega) ?_ | refine G.rem (by omega) ?_ | refine G.shr (by omega) ?_ | refine G.conv (by omega) ?_ | refine G.step ?_ | refine G.buildA (by rfl) ?_ | (refine Gs.box ?_; intro _) | (refine Gs.alloc ?_; intro _) | refine Gs.store ?_ | refine G.retc ?_ | refine Gs.dr ?_ | refine G.qadd (by omega) ?_ | refine G.qsub (by omega) ?_ | refine G.qmul (by omega) ?_ | refine G.qkp ?_ | refine Gs.qkb ?_ | refine G.withT ?_ | refine Gs.withb ?_ | refine G.ift ?_ | refine G.iff ?_ | refine G.gdtt ?_ | refine G.gdff ?_ | refine G.gdtf ?_ | refine G.gdft ?_ | (refine G.jk ?_; intro _)))
    refine Gs.callv0 (cmp_ok _ _ h) ?_
    (repeat (first | refine G.add (by omega) ?_ | refine G.sub (by omega) ?_ | refine G.mul (by omega) ?_ | refine G.neg (by omega) ?_ | refine G.quo (by omega) (by omega) ?_ | refine G.rem (by omega) ?_ | refine G.shr (by omega) ?_ | refine G.conv (by omega) ?_ | refine G.step ?_ | refine G.buildA (by rfl) ?_ | (refine Gs.box ?_; intro _) | (refine Gs.alloc ?_; intro _) | refine Gs.store ?_ | refine G.retc ?_ | refine Gs.dr ?_ | refine G.qadd (by omega) ?_ | refine G.qsub (by omega) ?_ | refine G.qmul (by omega) ?_ | refine G.qkp ?_ | refine Gs.qkb ?_ | refine G.withT ?_ | refine Gs.withb ?_ | refine G.ift ?_ | refine G.iff ?_ | refine G.gdtt ?_ | refine G.gdff ?_ | refine G.gdtf ?_ | refine G.gdft ?_ | (refine G.jk ?_; intro _)))
    refine Gs.callv0 (rest_ok n e h he) ?_
    (repeat (first | refine G.add (by omega) ?_ | refine G.sub (by omega) ?_ | refine G.mul (by omega) ?_ | refine G.neg (by omega) ?_ | refine G.quo (by omega) (by omega) ?_ | refine G.rem (by omega) ?_ | refine G.shr (by omega) ?_ | refine G.conv (by omega) ?_ | refine G.step ?_ | refine G.buildA (by rfl) ?_ | (refine Gs.box ?_; intro _) | (refine Gs.alloc ?_; intro _) | refine Gs.store ?_ | refine G.retc ?_ | refine Gs.dr ?_ | refine G.qadd (by omega) ?_ | refine G.qsub (by omega) ?_ | refine G.qmul (by omega) ?_ | refine G.qkp ?_ | refine Gs.qkb ?_ | refine G.withT ?_ | refine Gs.withb ?_ | refine G.ift ?_ | refine G.iff ?_ | refine G.gdtt ?_ | refine G.gdff ?_ | refine G.gdtf ?_ | refine G.gdft ?_ | (refine G.jk ?_; intro _)))
    refine Gs.callv0 (rest_ok m f h hf) ?_
    refine Gs.callv0 (cmp_ok _ _ h) ?_
    refine Gs.buildSlice (by decide) ?_
    intro b
    refine Gs.freeze (v := .slice (some ⟨b, 0, none⟩) 2 2) ?_
    intro h' hle hr
    refine Gs.callv0 (or_ok [cmpI (flP n e 0) (flP m f 0), cmpI (rs n e) (rs m f)] _ h' (by simp) (hr 2 rfl (by decide))) ?_
    refine Gs.ret ?_
    rw [floor0, floor0]
    unfold cmpF
    simp [orL]
    split <;> simp_all
end Go.Proofs.YtcapijkioaocmaaDoor
end

section
set_option linter.unusedVariables false
set_option maxHeartbeats 4000000
namespace Go.Proofs.YtcapijkioaocmaaDoor
open Go Go.Sk Go.Dy
theorem TArr.spec {P : Program} {t n e sz : Nat} (h : TArr P t n e sz) : ∃ i, P.underlying t = some (.array n e) ∧ P.info? e = some i ∧ i.size = sz := by
  have h := h.ok
  unfold arrB at h
  cases hu : P.underlying t with
  | none => rw [hu] at h; cases h
  | some d =>
    rw [hu] at h
    cases d <;> try (cases h; done)
    rename_i n' e'
    cases hi : P.info? e with
    | none => rw [hi] at h; cases h
    | some i =>
      rw [hi] at h
      simp only [Bool.and_eq_true] at h
      obtain ⟨⟨h1, h2⟩, h3⟩ := h
      rw [Nat.eq_of_beq_eq_true h1, Nat.eq_of_beq_eq_true h2]
      exact ⟨i, rfl, rfl, Nat.eq_of_beq_eq_true h3⟩
theorem Yd.indexA {P : Program} {S : WP} {t n e sz b o : Nat} {k : IntKind} {i : Int} [ht : TArr P t n e sz] (hi : 0 ≤ i ∧ i < n) : Yd P S (V (Instr.indexAt t (ptr b o) (.int k i))) (ptr b (o + i.toNat * sz)) := Yd.of fun w => by
  obtain ⟨inf, h1, h2, h3⟩ := TArr.spec ht
  unfold Instr.indexAt
  show Sem.run P (Sem.bind (asIntOf (.int k i)) _) w = _
  simp only [asIntOf]
  show Sem.run P (Sem.bind (Sem.pure _) _) w = _
  simp only [Sem.bind]
  rw [Sem.run_bind, runU h1]
  simp only [Result.andThen_ok, Instr.sureAddr, Sem.run_bind, run_pure, runU h1, run_sizeOf h2, h3, if_pos hi]
  rw [add_addr]
theorem Yd.shrU {P : Program} {S : WP} {t : TypeId} {k yk : IntKind} {a y : Int} (hy : 0 ≤ y ∧ y ≤ 63) (hb : k.bits = 64) : Yd P S (V (binOp .shr t (.int k a) (.int yk y))) (.int k (a / 2 ^ y.toNat)) := Yd.of fun w => by
    have hm : min y.toNat k.bits = y.toNat := by rw [hb]; omega
    simp only [binOp, Op.shift, if_neg (show ¬ y < 0 by omega), hm]
    have : a.fdiv (2 ^ y.toNat) = a / 2 ^ y.toNat := Int.fdiv_eq_ediv_of_nonneg _ (Int.le_of_lt (Int.pow_pos (by decide)))
    rw [this]
    rfl
/-- The table of math/bits. -/
def TzTab (h : Hp) : Prop := ∀ i, i < 64 → hcell h 1 i = some (.int .u8 (Lib.deBruijn64tab.getD i 0 : Nat))
theorem TzTab.mono {h h' : Hp} (hle : Hle h h') (ht : TzTab h) : TzTab h' := fun i hi => hcell_mono hle (ht i hi)
theorem uwrap (x : Nat) (hx : x < 18446744073709551616) : IntKind.u64.wrap (x : Int) = x := by
  have h1 : ((2 : Int) ^ IntKind.u64.bits) = 18446744073709551616 := by decide
  unfold IntKind.wrap
  rw [h1]
  have h2 : IntKind.u64.signed = false := rfl
  simp only [h2, Bool.false_and, Bool.false_eq_true, if_false]
  omega
theorem uneg (x : Nat) (h0 : 0 < x) (hx : x < 18446744073709551616) : IntKind.u64.wrap (0 - (x : Int)) = ((18446744073709551616 - x : Nat) : Int) := by
  have h1 : ((2 : Int) ^ IntKind.u64.bits) = 18446744073709551616 := by decide
  unfold IntKind.wrap
  rw [h1]
  have h2 : IntKind.u64.signed = false := rfl
  simp only [h2, Bool.false_and, Bool.false_eq_true, if_false]
  omega
theorem uand (x y : Nat) (hx : x < 18446744073709551616) (hy : y < 18446744073709551616) : IntKind.u64.wrap ((BitVec.ofInt 64 (x : Int) &&& BitVec.ofInt 64 (y : Int)).toNat : Int) = ((x &&& y : Nat) : Int) := by
  rw [BitVec.ofInt_natCast, BitVec.ofInt_natCast, BitVec.toNat_and, BitVec.toNat_ofNat, BitVec.toNat_ofNat, Nat.mod_eq_of_lt (by omega), Nat.mod_eq_of_lt (by omega)]
  refine uwrap _ (Nat.lt_of_le_of_lt Nat.and_le_left hx)
theorem umul (x y : Nat) : IntKind.u64.wrap ((x : Int) * (y : Int)) = ((x * y % 18446744073709551616 : Nat) : Int) := by
  have h1 : ((2 : Int) ^ IntKind.u64.bits) = 18446744073709551616 := by decide
  unfold IntKind.wrap
  rw [h1]
  have h2 : IntKind.u64.signed = false := rfl
  simp only [h2, Bool.false_and, Bool.false_eq_true, if_false]
  rw [Int.natCast_emod, Int.natCast_mul]
  rfl
theorem yneg {S : WP} (x : Nat) (h0 : 0 < x) (hx : x < 18446744073709551616) : Yd Tryd.prog S (V (Op.unary .neg (.int .u64 (x : Int)))) (.int .u64 ((18446744073709551616 - x : Nat) : Int)) := Yd.of fun w => by
  have e := uneg x h0 hx
  rw [← e]
  rfl
theorem yand {S : WP} (x y : Nat) (hx : x < 18446744073709551616) (hy : y < 18446744073709551616) : Yd Tryd.prog S (V (binOp .and 75 (.int .u64 (x : Int)) (.int .u64 (y : Int)))) (.int .u64 ((x &&& y : Nat) : Int)) := Yd.of fun w => by
  have := uand x y hx hy
  simp only [binOp, ne_eq, not_true, if_false, Op.intBits]
  exact congrArg (fun z => Result.ok (Value.int .u64 z) w) this
theorem ymul {S : WP} (x y : Nat) (z : Int) (hz : z = (y : Int)) : Yd Tryd.prog S (V (binOp .mul 75 (.int .u64 (x : Int)) (.int .u64 z))) (.int .u64 ((x * y % 18446744073709551616 : Nat) : Int)) := Yd.of fun w => by
  subst hz
  rw [← umul]
  rfl
theorem yshr {S : WP} (x y : Nat) (z : Int) (hz : z = (y : Int)) (hy : y < 64) : Yd Tryd.prog S (V (binOp .shr 75 (.int .u64 (x : Int)) (.int .u64 z))) (.int .u64 ((x / 2 ^ y : Nat) : Int)) := by
  subst hz
  have := Yd.shrU (P := Tryd.prog) (S := S) (t := 75) (k := .u64) (yk := .u64) (a := (x : Int)) (y := (y : Int)) ⟨by omega, by omega⟩ rfl
  rw [Int.toNat_natCast] at this
  rw [Int.natCast_ediv, Int.natCast_pow]
  exact this
theorem tz64_ok (x : Nat) (h : Hp) (h0 : 0 < x) (hx : x < 18446744073709551616) (ht : TzTab h) : Ct Tryd.prog 50 [.int .u64 x] h (fun _ v => v = I (Lib.ctz 64 x)) := by
  refine ct50 ?_
  intro w0
  unfold s50
  have e64 : (2 : Nat) ^ 64 = 18446744073709551616 := by decide
  have e58 : (2 : Nat) ^ 58 = 288230376151711744 := by decide
  obtain ⟨hl1, hl2⟩ := Lib.lowest_bit 64 x (by omega) (by rw [e64]; exact hx)
  obtain ⟨hd1, hd2⟩ := Lib.deBruijn64_at (Lib.ctz 64 x) hl2
  refine G.step ?_
  refine G.ifd ?_ ?_ <;> intro hz
  · omega
  haveI i1 := yneg (S := St w0 h h []) x h0 hx
  refine G.step ?_
  haveI i2 := yand (S := St w0 h h []) x (18446744073709551616 - x) hx (by omega)
  refine G.step ?_
  rw [e64] at hl1
  rw [hl1]
  haveI i3 := ymul (S := St w0 h h []) (2 ^ Lib.ctz 64 x) 285870213051353865 285870213051353865 (by omega)
  refine G.step ?_
  generalize 2 ^ Lib.ctz 64 x * 285870213051353865 % 18446744073709551616 = y at *
  haveI i4 := yshr (S := St w0 h h []) y 58 58 (by omega) (by omega)
  refine G.step ?_
  rw [e58]
  generalize y / 288230376151711744 = q at *
  haveI := Yd.indexA (P := Tryd.prog) (S := St w0 h h []) (t := 83) (b := 1) (o := 0) (k := .u64) (i := (q : Int)) ⟨by omega, by omega⟩
  refine G.step ?_
  rw [Int.toNat_natCast, Nat.zero_add, Nat.mul_one]
  have hc := ht _ hd1
  rw [hd2] at hc
  refine Gs.loadP1 (cs := []) (v := .int .u8 ((Lib.ctz 64 x : Nat) : Int)) (fun j v e => ?_) ?_
  · cases j with
    | zero =>
      have e' := Option.some.inj e
      rw [← e', Nat.add_zero]
      exact hc
    | succ j => cases e
  refine G.conv (by omega) ?_
  exact Gs.ret rfl
theorem tz_ok (x : Nat) (h : Hp) (h0 : 0 < x) (hx : x < 18446744073709551616) (ht : TzTab h) : Ct Tryd.prog 33 [.int .u64 x] h (fun _ v => v = I (Lib.ctz 64 x)) := by
  refine ct33 ?_
  intro w0
  unfold s33
  refine G.iff ?_
  refine Gs.callv0 (tz64_ok x h h0 hx ht) ?_
  exact Gs.ret rfl
theorem ctz_spec (x : Nat) (h0 : 0 < x) (hx : x < 18446744073709551616) : ∃ m, x = 2 ^ Lib.ctz 64 x * (2 * m + 1) ∧ Lib.ctz 64 x < 64 := by
  have := Lib.ctzFrom_spec 64 x h0 (by simpa using hx)
  unfold Lib.ctz
  first
    | exact this
    | (rw [if_neg (by omega)]; exact this)
end Go.Proofs.YtcapijkioaocmaaDoor
end

section
set_option linter.unusedVariables false
set_option maxHeartbeats 4000000
namespace Go.Proofs.YtcapijkioaocmaaDoor
open Go Go.Sk Go.Dy
theorem u64wrap (n : Int) : IntKind.u64.wrap n = ((n % 18446744073709551616).toNat : Int) := by
  have h1 : ((2 : Int) ^ IntKind.u64.bits) = 18446744073709551616 := by decide
  unfold IntKind.wrap
  rw [h1]
  have h2 : IntKind.u64.signed = false := rfl
  simp only [h2, Bool.false_and, Bool.false_eq_true, if_false]
  omega
theorem tzn_ok (n : Int) (h : Hp) (h0 : n ≠ 0) (h1 : -9223372036854775808 ≤ n) (h2 : n ≤ 9223372036854775807) (ht : TzTab h) : Ct Tryd.prog 33 [.int .u64 (IntKind.u64.wrap n)] h (fun _ v => v = I (tz n)) := by
  rw [u64wrap]
  have := tz_ok (n % 18446744073709551616).toNat h (by omega) (by omega) ht
  unfold tz
  exact this
theorem make_ok (n e : Int) (h : Hp) (hn : -9223372036854775808 ≤ n) (hn' : n ≤ 9223372036854775807) (ht : TzTab h) : Ct Tryd.prog 14 [I n, I e] h (fun _ v => v = Two (made n e)) := by
  refine ct14 ?_
  intro w0
  unfold s14
  ((repeat (first | refine G.add (by omega) ?_ | refine G.sub (by omega) ?_ | refine G.mul (by omega) ?_ | refine G.neg (by omega) ?_ | refine G.quo (by omega) (by omega) ?_ | refine G.rem (by omega) ?_ | refine G.shr (by omega) ?_ | refine G.conv (by omega) ?_ | refine G.step ?_ | refine G.buildA (by rfl) ?_ | (refine Gs.box ?_; intro _) | (refine Gs.alloc ?_; intro _) | refine Gs.store ?_ | refine G.retc ?_ | refine Gs.dr ?_ | refine G.qadd (by omega) ?_ | refine G.qsub (by omega) ?_ | refine G.qmul (by omega) ?_ | refine G.qkp ?_ | refine Gs.qkb ?_ | refine G.withT ?_ | refine Gs.withb ?_ | refine G.ift ?_ | refine G.iff ?_ | refine G.gdtt ?_ | refine G.gdff ?_ | refine G.gdtf ?_ | refine G.gdft ?_ | refine G.jn ?_ | (refine G.jk ?_; intro _))); repeat (any_goals ((first | (refine G.ifd ?_ ?_ <;> intro _) | (refine G.ifb ?_ ?_ <;> intro _) | (refine G.gddt ?_ ?_ <;> intro _) | (refine G.gddf ?_ ?_ <;> intro _) | (refine G.gdbt ?_ ?_ <;> intro _) | (refine G.gdbf ?_ ?_ <;> intro _)) <;> (try (exfalso; omega; done)) <;> (repeat (first | refine G.add (by omega) ?_ | refine G.sub (by omega) ?_ | refine G.mul (by omega) ?_ | refine G.neg (by omega) ?_ | refine G.quo (by omega) (by omega) ?_ | refine G.rem (by omega) ?_ | refine G.shr (by omega) ?_ | refine G.conv (by omega) ?_ | refine G.step ?_ | refine G.buildA (by rfl) ?_ | (refine Gs.box ?_; intro _) | (refine Gs.alloc ?_; intro _) | refine Gs.store ?_ | refine G.retc ?_ | refine Gs.dr ?_ | refine G.qadd (by omega) ?_ | refine G.qsub (by omega) ?_ | refine G.qmul (by omega) ?_ | refine G.qkp ?_ | refine Gs.qkb ?_ | refine G.withT ?_ | refine Gs.withb ?_ | refine G.ift ?_ | refine G.iff ?_ | refine G.gdtt ?_ | refine G.gdff ?_ | refine G.gdtf ?_ | refine G.gdft ?_ | refine G.jn ?_ | (refine G.jk ?_; intro _))))))
  · exact Gs.ret (by rw [made_out (by omega)])
  · exact Gs.ret (by rw [made_out (by omega)])
  · obtain ⟨k, rfl⟩ := Int.eq_ofNat_of_zero_le (by omega : 0 ≤ e)
    have h0 : n = 0 := by assumption
    subst h0
    exact Gs.ret (by rw [made_zero k (by omega)])
  · obtain ⟨k, rfl⟩ := Int.eq_ofNat_of_zero_le (by omega : 0 ≤ e)
    have h0 : ¬ n = 0 := by assumption
    refine Gs.callv0 (tzn_ok n h h0 hn hn' ht) ?_
    refine G.step ?_
    have hm : min (k : Int) (tz n : Int) = ((min k (tz n) : Nat) : Int) := by omega
    rw [hm]
    have hmt := made_tz n k (by omega) h0 hn hn'
    have hle : min k (tz n) ≤ k := Nat.min_le_left _ _
    generalize min k (tz n) = s at *
    (repeat (first | refine G.add (by omega) ?_ | refine G.sub (by omega) ?_ | refine G.mul (by omega) ?_ | refine G.neg (by omega) ?_ | refine G.quo (by omega) (by omega) ?_ | refine G.rem (by omega) ?_ | refine G.shr (by omega) ?_ | refine G.conv (by omega) ?_ | refine G.step ?_ | refine G.buildA (by rfl) ?_ | (refine Gs.box ?_; intro _) | (refine Gs.alloc ?_; intro _) | refine Gs.store ?_ | refine G.retc ?_ | refine Gs.dr ?_ | refine G.qadd (by omega) ?_ | refine G.qsub (by omega) ?_ | refine G.qmul (by omega) ?_ | refine G.qkp ?_ | refine Gs.qkb ?_ | refine G.withT ?_ | refine Gs.withb ?_ | refine G.ift ?_ | refine G.iff ?_ | refine G.gdtt ?_ | refine G.gdff ?_ | refine G.gdtf ?_ | refine G.gdft ?_ | (refine G.jk ?_; intro _)))
    rw [Int.toNat_natCast, show ((k : Int) - (s : Int)) = ((k - s : Nat) : Int) by omega]
    refine Gs.callv0 (valid_ok _ _ h) ?_
    generalize n / 2 ^ s = q at *
    cases hv : validB q ((k - s : Nat) : Int)
    all_goals
      rw [hv] at hmt
      (repeat (first | refine G.add (by omega) ?_ | refine G.sub (by omega) ?_ | refine G.mul (by omega) ?_ | refine G.neg (by omega) ?_ | refine G.quo (by omega) (by omega) ?_ | refine G.rem (by omega) ?_ | refine G.shr (by omega) ?_ | refine G.conv (by omega) ?_ | refine G.step ?_ | refine G.buildA (by rfl) ?_ | (refine Gs.box ?_; intro _) | (refine Gs.alloc ?_; intro _) | refine Gs.store ?_ | refine G.retc ?_ | refine Gs.dr ?_ | refine G.qadd (by omega) ?_ | refine G.qsub (by omega) ?_ | refine G.qmul (by omega) ?_ | refine G.qkp ?_ | refine Gs.qkb ?_ | refine G.withT ?_ | refine Gs.withb ?_ | refine G.ift ?_ | refine G.iff ?_ | refine G.gdtt ?_ | refine G.gdff ?_ | refine G.gdtf ?_ | refine G.gdft ?_ | (refine G.jk ?_; intro _)))
      exact Gs.ret (by rw [hmt]; rfl)
end Go.Proofs.YtcapijkioaocmaaDoor
end

section
set_option linter.unusedVariables false
set_option maxHeartbeats 4000000
namespace Go.Proofs.YtcapijkioaocmaaDoor
open Go Go.Sk Go.Dy
def rflP (n : Int) (e x : Nat) : Int :=
  if 1099511627776 / 2 ^ x + 1 < wh n e then 1099511627777 else if wh n e < -(1099511627776 / 2 ^ x) - 2 then -1099511627778 else wh n e * 2 ^ x + rs n e / 2 ^ (30 - x)
theorem ntdiv (b : Int) (hb : 0 < b) : (-1099511627776 : Int).tdiv b = -(1099511627776 / b) := by
  rw [Int.neg_tdiv, Int.tdiv_eq_ediv_of_nonneg (by decide)]
theorem rfloor_ok (n : Int) (e x : Nat) (h : Hp) (he : e ≤ 30) (hx : x ≤ 30) (hn : -1099511627776 ≤ n) (hn' : n ≤ 1099511627776) : Ct Tryd.prog 52 [Fr2 n e, I x] h (fun _ v => v = I (rflP n e x)) := by
  refine ct52 ?_
  intro w0
  unfold s52
  (repeat (first | refine G.add (by omega) ?_ | refine G.sub (by omega) ?_ | refine G.mul (by omega) ?_ | refine G.neg (by omega) ?_ | refine G.quo (by omega) (by omega) ?_ | refine G.rem (by omega) ?_ | refine G.shr (by omega) ?_ | refine G.conv (by omega) ?_ | refine G.step ?_ | refine G.buildA (by rfl) ?_ | (refine Gs.box ?_; intro _) | (refine Gs.alloc ?_; intro _) | refine Gs.store ?_ | refine G.retc ?_ | refine Gs.dr ?_ | refine G.qadd (by omega) ?_ | refine G.qsub (by omega) ?_ | refine G.qmul (by omega) ?_ | refine G.qkp ?_ | refine Gs.qkb ?_ | refine G.withT ?_ | refine Gs.withb ?_ | refine G.ift ?_ | refine G.iff ?_ | refine G.gdtt ?_ | refine G.gdff ?_ | refine G.gdtf ?_ | refine G.gdft ?_ | (refine G.jk ?_; intro _)))
  refine Gs.callv0 (whole_ok n e h he hn hn') ?_
  (repeat (first | refine G.add (by omega) ?_ | refine G.sub (by omega) ?_ | refine G.mul (by omega) ?_ | refine G.neg (by omega) ?_ | refine G.quo (by omega) (by omega) ?_ | refine G.rem (by omega) ?_ | refine G.shr (by omega) ?_ | refine G.conv (by omega) ?_ | refine G.step ?_ | refine G.buildA (by rfl) ?_ | (refine Gs.box ?_; intro _) | (refine Gs.alloc ?_; intro _) | refine Gs.store ?_ | refine G.retc ?_ | refine Gs.dr ?_ | refine G.qadd (by omega) ?_ | refine G.qsub (by omega) ?_ | refine G.qmul (by omega) ?_ | refine G.qkp ?_ | refine Gs.qkb ?_ | refine G.withT ?_ | refine Gs.withb ?_ | refine G.ift ?_ | refine G.iff ?_ | refine G.gdtt ?_ | refine G.gdff ?_ | refine G.gdtf ?_ | refine G.gdft ?_ | (refine G.jk ?_; intro _)))
  refine Gs.callv0 (power_ok x h (by omega)) ?_
  have hp := two_pow_pos x
  have hp' := two_pow_pos (30 - x)
  have hb : (2 : Int) ^ x ≤ 1073741824 := by have := two_pow_le hx; simpa using this
  have hq : 0 ≤ 1099511627776 / (2 : Int) ^ x ∧ 1099511627776 / (2 : Int) ^ x ≤ 1099511627776 := ⟨Int.ediv_nonneg (by decide) (Int.le_of_lt hp), Int.ediv_le_self _ (by decide)⟩
  have hm : 1099511627776 / (2 : Int) ^ x * 2 ^ x ≤ 1099511627776 := Int.ediv_mul_le _ (by omega)
  have hrb := rs_bd n e he
  have hrq : 0 ≤ rs n e / 2 ^ (30 - x) ∧ rs n e / 2 ^ (30 - x) ≤ rs n e := ⟨Int.ediv_nonneg hrb.1 (Int.le_of_lt hp'), Int.ediv_le_self _ hrb.1⟩
  have t1 : (1099511627776 : Int).tdiv (2 ^ x) = 1099511627776 / 2 ^ x := Int.tdiv_eq_ediv_of_nonneg (by decide)
  have t2 := ntdiv (2 ^ x) hp
  have t3 : (rs n e).tdiv (2 ^ (30 - x)) = rs n e / 2 ^ (30 - x) := Int.tdiv_eq_ediv_of_nonneg hrb.1
  refine G.quo (by omega) (by omega) ?_
  rw [t1]
  unfold rflP
  generalize 1099511627776 / (2 : Int) ^ x = M at *
  (repeat (first | refine G.add (by omega) ?_ | refine G.sub (by omega) ?_ | refine G.mul (by omega) ?_ | refine G.neg (by omega) ?_ | refine G.quo (by omega) (by omega) ?_ | refine G.rem (by omega) ?_ | refine G.shr (by omega) ?_ | refine G.conv (by omega) ?_ | refine G.step ?_ | refine G.buildA (by rfl) ?_ | (refine Gs.box ?_; intro _) | (refine Gs.alloc ?_; intro _) | refine Gs.store ?_ | refine G.retc ?_ | refine Gs.dr ?_ | refine G.qadd (by omega) ?_ | refine G.qsub (by omega) ?_ | refine G.qmul (by omega) ?_ | refine G.qkp ?_ | refine Gs.qkb ?_ | refine G.withT ?_ | refine Gs.withb ?_ | refine G.ift ?_ | refine G.iff ?_ | refine G.gdtt ?_ | refine G.gdff ?_ | refine G.gdtf ?_ | refine G.gdft ?_ | (refine G.jk ?_; intro _)))
  refine G.ifd ?_ ?_ <;> intro h1
  · exact Gs.ret (by rw [if_pos h1])
  refine G.quo (by omega) (by omega) ?_
  rw [t2]
  (repeat (first | refine G.add (by omega) ?_ | refine G.sub (by omega) ?_ | refine G.mul (by omega) ?_ | refine G.neg (by omega) ?_ | refine G.quo (by omega) (by omega) ?_ | refine G.rem (by omega) ?_ | refine G.shr (by omega) ?_ | refine G.conv (by omega) ?_ | refine G.step ?_ | refine G.buildA (by rfl) ?_ | (refine Gs.box ?_; intro _) | (refine Gs.alloc ?_; intro _) | refine Gs.store ?_ | refine G.retc ?_ | refine Gs.dr ?_ | refine G.qadd (by omega) ?_ | refine G.qsub (by omega) ?_ | refine G.qmul (by omega) ?_ | refine G.qkp ?_ | refine Gs.qkb ?_ | refine G.withT ?_ | refine Gs.withb ?_ | refine G.ift ?_ | refine G.iff ?_ | refine G.gdtt ?_ | refine G.gdff ?_ | refine G.gdtf ?_ | refine G.gdft ?_ | (refine G.jk ?_; intro _)))
  refine G.ifd ?_ ?_ <;> intro h2
  · exact Gs.ret (by rw [if_neg h1, if_pos h2])
  have b1 : wh n e * 2 ^ x ≤ (M + 1) * 2 ^ x := Int.mul_le_mul_of_nonneg_right (by omega) (by omega)
  have b2 : (-M - 2) * 2 ^ x ≤ wh n e * 2 ^ x := Int.mul_le_mul_of_nonneg_right (by omega) (by omega)
  rw [Int.add_mul] at b1
  rw [Int.sub_mul, Int.neg_mul] at b2
  (repeat (first | refine G.add (by omega) ?_ | refine G.sub (by omega) ?_ | refine G.mul (by omega) ?_ | refine G.neg (by omega) ?_ | refine G.quo (by omega) (by omega) ?_ | refine G.rem (by omega) ?_ | refine G.shr (by omega) ?_ | refine G.conv (by omega) ?_ | refine G.step ?_ | refine G.buildA (by rfl) ?_ | (refine Gs.box ?_; intro _) | (refine Gs.alloc ?_; intro _) | refine Gs.store ?_ | refine G.retc ?_ | refine Gs.dr ?_ | refine G.qadd (by omega) ?_ | refine G.qsub (by omega) ?_ | refine G.qmul (by omega) ?_ | refine G.qkp ?_ | refine Gs.qkb ?_ | refine G.withT ?_ | refine Gs.withb ?_ | refine G.ift ?_ | refine G.iff ?_ | refine G.gdtt ?_ | refine G.gdff ?_ | refine G.gdtf ?_ | refine G.gdft ?_ | (refine G.jk ?_; intro _)))
  rw [show (30 : Int) - (x : Int) = ((30 - x : Nat) : Int) by omega]
  refine Gs.callv0 (power_ok (30 - x) h (by omega)) ?_
  refine G.quo (by omega) (by omega) ?_
  rw [t3]
  (repeat (first | refine G.add (by omega) ?_ | refine G.sub (by omega) ?_ | refine G.mul (by omega) ?_ | refine G.neg (by omega) ?_ | refine G.quo (by omega) (by omega) ?_ | refine G.rem (by omega) ?_ | refine G.shr (by omega) ?_ | refine G.conv (by omega) ?_ | refine G.step ?_ | refine G.buildA (by rfl) ?_ | (refine Gs.box ?_; intro _) | (refine Gs.alloc ?_; intro _) | refine Gs.store ?_ | refine G.retc ?_ | refine Gs.dr ?_ | refine G.qadd (by omega) ?_ | refine G.qsub (by omega) ?_ | refine G.qmul (by omega) ?_ | refine G.qkp ?_ | refine Gs.qkb ?_ | refine G.withT ?_ | refine Gs.withb ?_ | refine G.ift ?_ | refine G.iff ?_ | refine G.gdtt ?_ | refine G.gdff ?_ | refine G.gdtf ?_ | refine G.gdft ?_ | (refine G.jk ?_; intro _)))
  exact Gs.ret (by rw [if_neg h1, if_neg h2])
def oddP (l h : Int) : Int :=
  if l ≤ 1 ∧ 1 ≤ h then 1 else if l ≤ -1 ∧ -1 ≤ h then -1 else if 0 < l ∧ l % 2 ≠ 0 then l else if 0 < l ∧ l < h then l + 1 else if h < 0 ∧ h % 2 ≠ 0 then h else if h < 0 ∧ l < h then h - 1 else 0
theorem odd_ok (a b : Int) (h : Hp) (ha : -9223372036854775807 ≤ a ∧ a ≤ 9223372036854775806) (hb : -9223372036854775807 ≤ b ∧ b ≤ 9223372036854775806) : Ct Tryd.prog 53 [I a, I b] h (fun _ v => v = I (oddP a b)) := by
  refine ct53 ?_
  intro w0
  unfold s53
  ((repeat (first | refine G.add (by omega) ?_ | refine G.sub (by omega) ?_ | refine G.mul (by omega) ?_ | refine G.neg (by omega) ?_ | refine G.quo (by omega) (by omega) ?_ | refine G.rem (by omega) ?_ | refine G.shr (by omega) ?_ | refine G.conv (by omega) ?_ | refine G.step ?_ | refine G.buildA (by rfl) ?_ | (refine Gs.box ?_; intro _) | (refine Gs.alloc ?_; intro _) | refine Gs.store ?_ | refine G.retc ?_ | refine Gs.dr ?_ | refine G.qadd (by omega) ?_ | refine G.qsub (by omega) ?_ | refine G.qmul (by omega) ?_ | refine G.qkp ?_ | refine Gs.qkb ?_ | refine G.withT ?_ | refine Gs.withb ?_ | refine G.ift ?_ | refine G.iff ?_ | refine G.gdtt ?_ | refine G.gdff ?_ | refine G.gdtf ?_ | refine G.gdft ?_ | refine G.jn ?_ | (refine G.jk ?_; intro _))); repeat (any_goals ((first | (refine G.ifd ?_ ?_ <;> intro _) | (refine G.ifb ?_ ?_ <;> intro _) | (refine G.gddt ?_ ?_ <;> intro _) | (refine G.gddf ?_ ?_ <;> intro _) | (refine G.gdbt ?_ ?_ <;> intro _) | (refine G.gdbf ?_ ?_ <;> intro _)) <;> (try (exfalso; omega; done)) <;> (repeat (first | refine G.add (by omega) ?_ | refine G.sub (by omega) ?_ | refine G.mul (by omega) ?_ | refine G.neg (by omega) ?_ | refine G.quo (by omega) (by omega) ?_ | refine G.rem (by omega) ?_ | refine G.shr (by omega) ?_ | refine G.conv (by omega) ?_ | refine G.step ?_ | refine G.buildA (by rfl) ?_ | (refine Gs.box ?_; intro _) | (refine Gs.alloc ?_; intro _) | refine Gs.store ?_ | refine G.retc ?_ | refine Gs.dr ?_ | refine G.qadd (by omega) ?_ | refine G.qsub (by omega) ?_ | refine G.qmul (by omega) ?_ | refine G.qkp ?_ | refine Gs.qkb ?_ | refine G.withT ?_ | refine Gs.withb ?_ | refine G.ift ?_ | refine G.iff ?_ | refine G.gdtt ?_ | refine G.gdff ?_ | refine G.gdtf ?_ | refine G.gdft ?_ | refine G.jn ?_ | (refine G.jk ?_; intro _))))))
  all_goals
    have := tmod2 a
    have := tmod2 b
    refine Gs.ret ?_
    unfold oddP
    refine congrArg I ?_
    repeat' split
    all_goals omega
end Go.Proofs.YtcapijkioaocmaaDoor
end

section
set_option linter.unusedVariables false
set_option maxHeartbeats 1000000
namespace Go.Proofs.YtcapijkioaocmaaDoor
open Go Go.Sk Go.Dy
theorem fl_val (n : Int) (e x : Nat) (he : e ≤ 30) (hx : x ≤ 30) : val n e / 2 ^ (30 - x) = if x ≤ e then n / 2 ^ (e - x) else n * 2 ^ (x - e) := by
  unfold val
  split
  · rw [show 30 - x = (e - x) + (30 - e) by omega, Int.pow_add]
    exact Int.mul_ediv_mul_of_pos_left _ _ (two_pow_pos _)
  · rw [show 30 - e = (x - e) + (30 - x) by omega, Int.pow_add, ← Int.mul_assoc]
    exact Int.mul_ediv_cancel _ (by have := two_pow_pos (30 - x); omega)
theorem flP_Fl (n : Int) (e x : Nat) (he : e ≤ 30) (hx : x ≤ 30) (hn : -1099511627776 ≤ n) (hn' : n ≤ 1099511627776) : Fl (flP n e x) (val n e / 2 ^ (30 - x)) := by
  rw [fl_val n e x he hx]
  unfold flP
  split
  · have := wh_bd n (e - x) 1099511627776 hn hn' (by decide)
    unfold wh at this
    exact ⟨.inl rfl, by omega, by omega⟩
  · have hp := two_pow_pos (x - e)
    have hm : 1099511627776 / (2 : Int) ^ (x - e) * 2 ^ (x - e) ≤ 1099511627776 := Int.ediv_mul_le _ (by omega)
    have hm' : 1099511627776 < (1099511627776 / (2 : Int) ^ (x - e) + 1) * 2 ^ (x - e) := Int.lt_ediv_add_one_mul_self _ hp
    generalize 1099511627776 / (2 : Int) ^ (x - e) = q at *
    split
    · have b1 : (q + 1) * 2 ^ (x - e) ≤ n * 2 ^ (x - e) := Int.mul_le_mul_of_nonneg_right (by omega) (by omega)
      exact ⟨.inr (.inl ⟨by omega, by omega⟩), by omega, by omega⟩
    · split
      · have b1 : n * 2 ^ (x - e) ≤ -(q + 1) * 2 ^ (x - e) := Int.mul_le_mul_of_nonneg_right (by omega) (by omega)
        rw [Int.neg_mul] at b1
        exact ⟨.inr (.inr ⟨by omega, by omega⟩), by omega, by omega⟩
      · have b1 : n * 2 ^ (x - e) ≤ q * 2 ^ (x - e) := Int.mul_le_mul_of_nonneg_right (by omega) (by omega)
        have b2 : -q * 2 ^ (x - e) ≤ n * 2 ^ (x - e) := Int.mul_le_mul_of_nonneg_right (by omega) (by omega)
        rw [Int.neg_mul] at b2
        exact ⟨.inl rfl, by omega, by omega⟩
theorem rflP_Fl (n : Int) (e x : Nat) (he : e ≤ 30) (hx : x ≤ 30) (hn : -1099511627776 ≤ n) (hn' : n ≤ 1099511627776) : Fl (rflP n e x) (val n e / 2 ^ (30 - x)) := by
  have hF : val n e / 2 ^ (30 - x) = wh n e * 2 ^ x + rs n e / 2 ^ (30 - x) := by
    rw [wh_val n e he, rs_val n e he]
    have hp := two_pow_pos (30 - x)
    have h30 := p30 x hx
    have hd := Int.mul_ediv_add_emod (val n e) 1073741824
    generalize val n e / 1073741824 = w at *
    generalize val n e % 1073741824 = r at *
    rw [← hd, ← h30, Int.mul_comm (2 ^ x), Int.mul_assoc, Int.mul_comm (2 ^ x), Int.add_comm, Int.add_mul_ediv_left _ _ (by omega), Int.add_comm]
  have hr := rs_bd n e he
  have hw := wh_bd n e 1099511627776 hn hn' (by decide)
  have hrq : 0 ≤ rs n e / 2 ^ (30 - x) ∧ rs n e / 2 ^ (30 - x) < 2 ^ x := by
    have hp := two_pow_pos (30 - x)
    refine ⟨Int.ediv_nonneg hr.1 (by omega), (Int.ediv_lt_iff_lt_mul hp).2 ?_⟩
    rw [p30 x hx]; exact hr.2
  rw [hF]
  unfold rflP
  have hp := two_pow_pos x
  have hb : (2 : Int) ^ x ≤ 1073741824 := by have := two_pow_le hx; simpa using this
  have hm : 1099511627776 / (2 : Int) ^ x * 2 ^ x ≤ 1099511627776 := Int.ediv_mul_le _ (by omega)
  have hm' : 1099511627776 < (1099511627776 / (2 : Int) ^ x + 1) * 2 ^ x := Int.lt_ediv_add_one_mul_self _ hp
  generalize rs n e / 2 ^ (30 - x) = r at *
  generalize 1099511627776 / (2 : Int) ^ x = q at *
  generalize wh n e = w at *
  rw [Int.add_mul] at hm'
  split
  · have b1 : (q + 1) * 2 ^ x ≤ w * 2 ^ x := Int.mul_le_mul_of_nonneg_right (by omega) (by omega)
    rw [Int.add_mul] at b1
    exact ⟨.inr (.inl ⟨by omega, by omega⟩), by omega, by omega⟩
  · split
    · have b1 : w * 2 ^ x ≤ (-(q + 1) - 1) * 2 ^ x := Int.mul_le_mul_of_nonneg_right (by omega) (by omega)
      rw [Int.sub_mul, Int.neg_mul, Int.add_mul] at b1
      exact ⟨.inr (.inr ⟨by omega, by omega⟩), by omega, by omega⟩
    · have b1 : w * 2 ^ x ≤ (q + 1) * 2 ^ x := Int.mul_le_mul_of_nonneg_right (by omega) (by omega)
      have b2 : (-q - 2) * 2 ^ x ≤ w * 2 ^ x := Int.mul_le_mul_of_nonneg_right (by omega) (by omega)
      rw [Int.add_mul] at b1
      rw [Int.sub_mul, Int.neg_mul] at b2
      exact ⟨.inl rfl, by omega, by omega⟩
end Go.Proofs.YtcapijkioaocmaaDoor
end

section
set_option linter.unusedVariables false
set_option maxHeartbeats 4000000
namespace Go.Proofs.YtcapijkioaocmaaDoor
open Go Go.Sk Go.Dy
theorem added_ok (n : Int) (e : Nat) (m : Int) (f : Nat) (h : Hp) (he : Valid n e) (hf : Valid m f) : Ct Tryd.prog 36 [Fr2 n e, Fr2 m f] h (fun _ v => v = Got (addF n e m f)) := by
  obtain ⟨he, hn, hn', _⟩ := he
  obtain ⟨hf, hm, hm', _⟩ := hf
  refine ct36 ?_
  intro w0
  unfold s36
  have hw1 := wh_bd n e 1099511627776 hn hn' (by decide)
  have hw2 := wh_bd m f 1099511627776 hm hm' (by decide)
  have hr1 := rs_bd n e he
  have hr2 := rs_bd m f hf
  (repeat (first | refine G.add (by omega) ?_ | refine G.sub (by omega) ?_ | refine G.mul (by omega) ?_ | refine G.neg (by omega) ?_ | refine G.quo (by omega) (by omega) ?_ | refine G.rem (by omega) ?_ | refine G.shr (by omega) ?_ | refine G.conv (by omega) ?_ | refine G.step ?_ | refine G.buildA (by rfl) ?_ | (refine Gs.box ?_; intro _) | (refine Gs.alloc ?_; intro _) | refine Gs.store ?_ | refine G.retc ?_ | refine Gs.dr ?_ | refine G.qadd (by omega) ?_ | refine G.qsub (by omega) ?_ | refine G.qmul (by omega) ?_ | refine G.qkp ?_ | refine Gs.qkb ?_ | refine G.withT ?_ | refine Gs.withb ?_ | refine G.ift ?_ | refine G.iff ?_ | refine G.gdtt ?_ | refine G.gdff ?_ | refine G.gdtf ?_ | refine G.gdft ?_ | (refine G.jk ?_; intro _)))
  refine Gs.callv0 (whole_ok n e h he hn hn') ?_
  (repeat (first | refine G.add (by omega) ?_ | refine G.sub (by omega) ?_ | refine G.mul (by omega) ?_ | refine G.neg (by omega) ?_ | refine G.quo (by omega) (by omega) ?_ | refine G.rem (by omega) ?_ | refine G.shr (by omega) ?_ | refine G.conv (by omega) ?_ | refine G.step ?_ | refine G.buildA (by rfl) ?_ | (refine Gs.box ?_; intro _) | (refine Gs.alloc ?_; intro _) | refine Gs.store ?_ | refine G.retc ?_ | refine Gs.dr ?_ | refine G.qadd (by omega) ?_ | refine G.qsub (by omega) ?_ | refine G.qmul (by omega) ?_ | refine G.qkp ?_ | refine Gs.qkb ?_ | refine G.withT ?_ | refine Gs.withb ?_ | refine G.ift ?_ | refine G.iff ?_ | refine G.gdtt ?_ | refine G.gdff ?_ | refine G.gdtf ?_ | refine G.gdft ?_ | (refine G.jk ?_; intro _)))
  refine Gs.callv0 (whole_ok m f h hf hm hm') ?_
  (repeat (first | refine G.add (by omega) ?_ | refine G.sub (by omega) ?_ | refine G.mul (by omega) ?_ | refine G.neg (by omega) ?_ | refine G.quo (by omega) (by omega) ?_ | refine G.rem (by omega) ?_ | refine G.shr (by omega) ?_ | refine G.conv (by omega) ?_ | refine G.step ?_ | refine G.buildA (by rfl) ?_ | (refine Gs.box ?_; intro _) | (refine Gs.alloc ?_; intro _) | refine Gs.store ?_ | refine G.retc ?_ | refine Gs.dr ?_ | refine G.qadd (by omega) ?_ | refine G.qsub (by omega) ?_ | refine G.qmul (by omega) ?_ | refine G.qkp ?_ | refine Gs.qkb ?_ | refine G.withT ?_ | refine Gs.withb ?_ | refine G.ift ?_ | refine G.iff ?_ | refine G.gdtt ?_ | refine G.gdff ?_ | refine G.gdtf ?_ | refine G.gdft ?_ | (refine G.jk ?_; intro _)))
  have e1 : addF n e m f = (let t := rs n e + rs m f
    let w := wh n e + wh m f + t / 1073741824
    let p := strip 30 (t % 1073741824)
    if 1099511627776 / 2 ^ p.2 < w ∨ w < -(1099511627776 / 2 ^ p.2) - 1 then (0, 0, 190) else made (w * 2 ^ p.2 + p.1) p.2) := by unfold addF; rfl
  dsimp only at e1
  refine G.jn ?_
  refine Gs.callv0 (power_ok 30 h (by omega)) ?_
  rw [show (2 : Int) ^ 30 = 1073741824 by decide]
  (repeat (first | refine G.add (by omega) ?_ | refine G.sub (by omega) ?_ | refine G.mul (by omega) ?_ | refine G.neg (by omega) ?_ | refine G.quo (by omega) (by omega) ?_ | refine G.rem (by omega) ?_ | refine G.shr (by omega) ?_ | refine G.conv (by omega) ?_ | refine G.step ?_ | refine G.buildA (by rfl) ?_ | (refine Gs.box ?_; intro _) | (refine Gs.alloc ?_; intro _) | refine Gs.store ?_ | refine G.retc ?_ | refine Gs.dr ?_ | refine G.qadd (by omega) ?_ | refine G.qsub (by omega) ?_ | refine G.qmul (by omega) ?_ | refine G.qkp ?_ | refine Gs.qkb ?_ | refine G.withT ?_ | refine Gs.withb ?_ | refine G.ift ?_ | refine G.iff ?_ | refine G.gdtt ?_ | refine G.gdff ?_ | refine G.gdtf ?_ | refine G.gdft ?_ | refine G.jn ?_ | (refine G.jk ?_; intro _)))
  refine G.ifd ?_ ?_ <;> intro hc
  · (repeat (first | refine G.add (by omega) ?_ | refine G.sub (by omega) ?_ | refine G.mul (by omega) ?_ | refine G.neg (by omega) ?_ | refine G.quo (by omega) (by omega) ?_ | refine G.rem (by omega) ?_ | refine G.shr (by omega) ?_ | refine G.conv (by omega) ?_ | refine G.step ?_ | refine G.buildA (by rfl) ?_ | (refine Gs.box ?_; intro _) | (refine Gs.alloc ?_; intro _) | refine Gs.store ?_ | refine G.retc ?_ | refine Gs.dr ?_ | refine G.qadd (by omega) ?_ | refine G.qsub (by omega) ?_ | refine G.qmul (by omega) ?_ | refine G.qkp ?_ | refine Gs.qkb ?_ | refine G.withT ?_ | refine Gs.withb ?_ | refine G.ift ?_ | refine G.iff ?_ | refine G.gdtt ?_ | refine G.gdff ?_ | refine G.gdtf ?_ | refine G.gdft ?_ | (refine G.jk ?_; intro _)))
    refine Gs.callv0 (power_ok 30 h (by omega)) ?_
    rw [show (2 : Int) ^ 30 = 1073741824 by decide]
    (repeat (first | refine G.add (by omega) ?_ | refine G.sub (by omega) ?_ | refine G.mul (by omega) ?_ | refine G.neg (by omega) ?_ | refine G.quo (by omega) (by omega) ?_ | refine G.rem (by omega) ?_ | refine G.shr (by omega) ?_ | refine G.conv (by omega) ?_ | refine G.step ?_ | refine G.buildA (by rfl) ?_ | (refine Gs.box ?_; intro _) | (refine Gs.alloc ?_; intro _) | refine Gs.store ?_ | refine G.retc ?_ | refine Gs.dr ?_ | refine G.qadd (by omega) ?_ | refine G.qsub (by omega) ?_ | refine G.qmul (by omega) ?_ | refine G.qkp ?_ | refine Gs.qkb ?_ | refine G.withT ?_ | refine Gs.withb ?_ | refine G.ift ?_ | refine G.iff ?_ | refine G.gdtt ?_ | refine G.gdff ?_ | refine G.gdtf ?_ | refine G.gdft ?_ | (refine G.jk ?_; intro _)))
    rw [show (rs n e + rs m f) % 1073741824 = rs n e + rs m f - 1073741824 by omega, show (rs n e + rs m f) / 1073741824 = 1 by omega] at e1
    have hT0 : 0 ≤ rs n e + rs m f - 1073741824 := by omega
    have hT1 : rs n e + rs m f - 1073741824 < 1073741824 := by omega
    have hW0 : -2199023255553 ≤ wh n e + wh m f + 1 := by omega
    have hW1 : wh n e + wh m f + 1 ≤ 2199023255553 := by omega
    generalize rs n e + rs m f - 1073741824 = T at *
    generalize wh n e + wh m f + 1 = W at *
    generalize addF n e m f = R at *
    clear hw1 hw2 hr1 hr2
    have hx00 := strip_le 30 T
    refine Gs.lp (β := Int × Nat) (fun b => (I b.1, I b.2)) (fun _ => h) (fun _ => _) (fun b => strip b.2 b.1 = strip 30 T ∧ b.2 ≤ 30 ∧ 0 ≤ b.1 ∧ b.1 < 1073741824) (fun b => b.2) (T, 30) rfl ⟨rfl, by omega, hT0, hT1⟩ (fun _ h => h) ?_
    rintro ⟨t, x⟩ ⟨hs, hx, ht0, ht1⟩ cont hc
    dsimp only at *
    have hev := tmod2 t
    have hp := two_pow_pos x
    have hb : (2 : Int) ^ x ≤ 1073741824 := by have := two_pow_le hx; simpa using this
    have hq : 0 ≤ 1099511627776 / (2 : Int) ^ x ∧ 1099511627776 / (2 : Int) ^ x ≤ 1099511627776 := ⟨Int.ediv_nonneg (by decide) (Int.le_of_lt hp), Int.ediv_le_self _ (by decide)⟩
    have hm : 1099511627776 / (2 : Int) ^ x * 2 ^ x ≤ 1099511627776 := Int.ediv_mul_le _ (by omega)
    have t1 : (1099511627776 : Int).tdiv (2 ^ x) = 1099511627776 / 2 ^ x := Int.tdiv_eq_ediv_of_nonneg (by decide)
    have t2 := ntdiv (2 ^ x) hp
    have hR : (x = 0 ∨ t % 2 = 1) → R = if 1099511627776 / 2 ^ x < W ∨ W < -(1099511627776 / 2 ^ x) - 1 then (0, 0, 190) else made (W * 2 ^ x + t) x := by
      intro hodd
      rw [← hs, strip_of_odd x t hodd] at e1
      exact e1
    have hx0 : x = 0 → 1099511627776 / (2 : Int) ^ x = 1099511627776 := by rintro rfl; rfl
    generalize 1099511627776 / (2 : Int) ^ x = M at *
    have hfin : ¬ (M < W ∨ W < -M - 1) → -9223372036854775808 ≤ W * 2 ^ x ∧ W * 2 ^ x ≤ 9223372036854775807 ∧ -9223372036854775808 ≤ W * 2 ^ x + t ∧ W * 2 ^ x + t ≤ 9223372036854775807 := by
      intro hc
      have b1 : W * 2 ^ x ≤ (M + 1) * 2 ^ x := Int.mul_le_mul_of_nonneg_right (by omega) (by omega)
      have b2 : (-M - 1) * 2 ^ x ≤ W * 2 ^ x := Int.mul_le_mul_of_nonneg_right (by omega) (by omega)
      rw [Int.add_mul] at b1
      rw [Int.sub_mul, Int.neg_mul] at b2
      omega
    by_cases hx1 : x = 0
    · subst hx1
      have pw0 : Ct Tryd.prog 44 [I 0] h (fun _ v => v = I 1) := power_ok 0 h (by omega)
      have hR := hR (Or.inl rfl)
      rw [Int.pow_zero, Int.mul_one] at hfin
      rw [Int.pow_zero, Int.mul_one] at hR
      have e0 : ((0 : Nat) : Int) = 0 := rfl
      rw [e0] at hR
      simp only [e0]
      ((repeat (first | refine G.add (by omega) ?_ | refine G.sub (by omega) ?_ | refine G.mul (by omega) ?_ | refine G.neg (by omega) ?_ | refine G.quo (by omega) (by omega) ?_ | refine G.rem (by omega) ?_ | refine G.shr (by omega) ?_ | refine G.conv (by omega) ?_ | refine G.step ?_ | refine G.buildA (by rfl) ?_ | (refine Gs.box ?_; intro _) | (refine Gs.alloc ?_; intro _) | refine Gs.store ?_ | refine G.retc ?_ | refine Gs.dr ?_ | refine G.qadd (by omega) ?_ | refine G.qsub (by omega) ?_ | refine G.qmul (by omega) ?_ | refine G.qkp ?_ | refine Gs.qkb ?_ | refine G.withT ?_ | refine Gs.withb ?_ | refine G.ift ?_ | refine G.iff ?_ | refine G.gdtt ?_ | refine G.gdff ?_ | refine G.gdtf ?_ | refine G.gdft ?_ | refine G.jn ?_ | (refine G.jk ?_; intro _))); repeat (any_goals ((first | (refine G.ifd ?_ ?_ <;> intro _) | (refine G.ifb ?_ ?_ <;> intro _) | (refine G.gddt ?_ ?_ <;> intro _) | (refine G.gddf ?_ ?_ <;> intro _) | (refine G.gdbt ?_ ?_ <;> intro _) | (refine G.gdbf ?_ ?_ <;> intro _)) <;> (try (exfalso; omega; done)) <;> (repeat (first | refine G.add (by omega) ?_ | refine G.sub (by omega) ?_ | refine G.mul (by omega) ?_ | refine G.neg (by omega) ?_ | refine G.quo (by omega) (by omega) ?_ | refine G.rem (by omega) ?_ | refine G.shr (by omega) ?_ | refine G.conv (by omega) ?_ | refine G.step ?_ | refine G.buildA (by rfl) ?_ | (refine Gs.box ?_; intro _) | (refine Gs.alloc ?_; intro _) | refine Gs.store ?_ | refine G.retc ?_ | refine Gs.dr ?_ | refine G.qadd (by omega) ?_ | refine G.qsub (by omega) ?_ | refine G.qmul (by omega) ?_ | refine G.qkp ?_ | refine Gs.qkb ?_ | refine G.withT ?_ | refine Gs.withb ?_ | refine G.ift ?_ | refine G.iff ?_ | refine G.gdtt ?_ | refine G.gdff ?_ | refine G.gdtf ?_ | refine G.gdft ?_ | refine G.jn ?_ | (refine G.jk ?_; intro _))))))
      all_goals first
        | exact Gs.ret (by rw [hR, if_pos (by omega)])
        | skip
      all_goals
        have hf := hfin (by omega)
        refine Gs.callv0 pw0 ?_
        refine G.mul (by omega) ?_
        rw [Int.mul_one]
        (repeat (first | refine G.add (by omega) ?_ | refine G.sub (by omega) ?_ | refine G.mul (by omega) ?_ | refine G.neg (by omega) ?_ | refine G.quo (by omega) (by omega) ?_ | refine G.rem (by omega) ?_ | refine G.shr (by omega) ?_ | refine G.conv (by omega) ?_ | refine G.step ?_ | refine G.buildA (by rfl) ?_ | (refine Gs.box ?_; intro _) | (refine Gs.alloc ?_; intro _) | refine Gs.store ?_ | refine G.retc ?_ | refine Gs.dr ?_ | refine G.qadd (by omega) ?_ | refine G.qsub (by omega) ?_ | refine G.qmul (by omega) ?_ | refine G.qkp ?_ | refine Gs.qkb ?_ | refine G.withT ?_ | refine Gs.withb ?_ | refine G.ift ?_ | refine G.iff ?_ | refine G.gdtt ?_ | refine G.gdff ?_ | refine G.gdtf ?_ | refine G.gdft ?_ | (refine G.jk ?_; intro _)))
        refine Gs.callv0 (made_ok _ _ h (by omega) (by omega)) ?_
        (repeat (first | refine G.add (by omega) ?_ | refine G.sub (by omega) ?_ | refine G.mul (by omega) ?_ | refine G.neg (by omega) ?_ | refine G.quo (by omega) (by omega) ?_ | refine G.rem (by omega) ?_ | refine G.shr (by omega) ?_ | refine G.conv (by omega) ?_ | refine G.step ?_ | refine G.buildA (by rfl) ?_ | (refine Gs.box ?_; intro _) | (refine Gs.alloc ?_; intro _) | refine Gs.store ?_ | refine G.retc ?_ | refine Gs.dr ?_ | refine G.qadd (by omega) ?_ | refine G.qsub (by omega) ?_ | refine G.qmul (by omega) ?_ | refine G.qkp ?_ | refine Gs.qkb ?_ | refine G.withT ?_ | refine Gs.withb ?_ | refine G.ift ?_ | refine G.iff ?_ | refine G.gdtt ?_ | refine G.gdff ?_ | refine G.gdtf ?_ | refine G.gdft ?_ | (refine G.jk ?_; intro _)))
        exact Gs.ret (by rw [hR, if_neg (by omega)])
    ((repeat (first | refine G.add (by omega) ?_ | refine G.sub (by omega) ?_ | refine G.mul (by omega) ?_ | refine G.neg (by omega) ?_ | refine G.quo (by omega) (by omega) ?_ | refine G.rem (by omega) ?_ | refine G.shr (by omega) ?_ | refine G.conv (by omega) ?_ | refine G.step ?_ | refine G.buildA (by rfl) ?_ | (refine Gs.box ?_; intro _) | (refine Gs.alloc ?_; intro _) | refine Gs.store ?_ | refine G.retc ?_ | refine Gs.dr ?_ | refine G.qadd (by omega) ?_ | refine G.qsub (by omega) ?_ | refine G.qmul (by omega) ?_ | refine G.qkp ?_ | refine Gs.qkb ?_ | refine G.withT ?_ | refine Gs.withb ?_ | refine G.ift ?_ | refine G.iff ?_ | refine G.gdtt ?_ | refine G.gdff ?_ | refine G.gdtf ?_ | refine G.gdft ?_ | refine G.jn ?_ | (refine G.jk ?_; intro _))); repeat (any_goals ((first | (refine G.ifd ?_ ?_ <;> intro _) | (refine G.ifb ?_ ?_ <;> intro _) | (refine G.gddt ?_ ?_ <;> intro _) | (refine G.gddf ?_ ?_ <;> intro _) | (refine G.gdbt ?_ ?_ <;> intro _) | (refine G.gdbf ?_ ?_ <;> intro _)) <;> (try (exfalso; omega; done)) <;> (repeat (first | refine G.add (by omega) ?_ | refine G.sub (by omega) ?_ | refine G.mul (by omega) ?_ | refine G.neg (by omega) ?_ | refine G.quo (by omega) (by omega) ?_ | refine G.rem (by omega) ?_ | refine G.shr (by omega) ?_ | refine G.conv (by omega) ?_ | refine G.step ?_ | refine G.buildA (by rfl) ?_ | (refine Gs.box ?_; intro _) | (refine Gs.alloc ?_; intro _) | refine Gs.store ?_ | refine G.retc ?_ | refine Gs.dr ?_ | refine G.qadd (by omega) ?_ | refine G.qsub (by omega) ?_ | refine G.qmul (by omega) ?_ | refine G.qkp ?_ | refine Gs.qkb ?_ | refine G.withT ?_ | refine Gs.withb ?_ | refine G.ift ?_ | refine G.iff ?_ | refine G.gdtt ?_ | refine G.gdff ?_ | refine G.gdtf ?_ | refine G.gdft ?_ | refine G.jn ?_ | (refine G.jk ?_; intro _))))))
    all_goals first
      | exact Gs.go (hc (t / 2, x - 1) ⟨by
          rw [← hs]
          obtain ⟨y, rfl⟩ : ∃ y, x = y + 1 := ⟨x - 1, by omega⟩
          conv => rhs; unfold strip
          rw [if_pos (by omega)]; rfl, by omega, by omega, by omega⟩ (by omega)) (by
          rw [tdiv2 t (by omega)]
          dsimp only
          rw [show ((x - 1 : Nat) : Int) = (x : Int) - 1 by omega])
      | exact Gs.ret (by rw [hR (by omega), if_pos (by omega)])
      | skip
    all_goals
      refine Gs.callv0 (power_ok x h (by omega)) ?_
      have hor : x = 0 ∨ t % 2 = 1 := by omega
      first
        | (refine G.quo (by omega) (by omega) ?_
           rw [t1]
           (repeat (first | refine G.add (by omega) ?_ | refine G.sub (by omega) ?_ | refine G.mul (by omega) ?_ | refine G.neg (by omega) ?_ | refine G.quo (by omega) (by omega) ?_ | refine G.rem (by omega) ?_ | refine G.shr (by omega) ?_ | refine G.conv (by omega) ?_ | refine G.step ?_ | refine G.buildA (by rfl) ?_ | (refine Gs.box ?_; intro _) | (refine Gs.alloc ?_; intro _) | refine Gs.store ?_ | refine G.retc ?_ | refine Gs.dr ?_ | refine G.qadd (by omega) ?_ | refine G.qsub (by omega) ?_ | refine G.qmul (by omega) ?_ | refine G.qkp ?_ | refine Gs.qkb ?_ | refine G.withT ?_ | refine Gs.withb ?_ | refine G.ift ?_ | refine G.iff ?_ | refine G.gdtt ?_ | refine G.gdff ?_ | refine G.gdtf ?_ | refine G.gdft ?_ | refine G.jn ?_ | (refine G.jk ?_; intro _)))
           refine G.gddf ?_ ?_ <;> intro hc1
           · (repeat (first | refine G.add (by omega) ?_ | refine G.sub (by omega) ?_ | refine G.mul (by omega) ?_ | refine G.neg (by omega) ?_ | refine G.quo (by omega) (by omega) ?_ | refine G.rem (by omega) ?_ | refine G.shr (by omega) ?_ | refine G.conv (by omega) ?_ | refine G.step ?_ | refine G.buildA (by rfl) ?_ | (refine Gs.box ?_; intro _) | (refine Gs.alloc ?_; intro _) | refine Gs.store ?_ | refine G.retc ?_ | refine Gs.dr ?_ | refine G.qadd (by omega) ?_ | refine G.qsub (by omega) ?_ | refine G.qmul (by omega) ?_ | refine G.qkp ?_ | refine Gs.qkb ?_ | refine G.withT ?_ | refine Gs.withb ?_ | refine G.ift ?_ | refine G.iff ?_ | refine G.gdtt ?_ | refine G.gdff ?_ | refine G.gdtf ?_ | refine G.gdft ?_ | (refine G.jk ?_; intro _)))
             exact Gs.ret (by rw [hR hor, if_pos (by omega)])
           refine Gs.callv0 (power_ok x h (by omega)) ?_
           refine G.quo (by omega) (by omega) ?_
           rw [t2]
           (repeat (first | refine G.add (by omega) ?_ | refine G.sub (by omega) ?_ | refine G.mul (by omega) ?_ | refine G.neg (by omega) ?_ | refine G.quo (by omega) (by omega) ?_ | refine G.rem (by omega) ?_ | refine G.shr (by omega) ?_ | refine G.conv (by omega) ?_ | refine G.step ?_ | refine G.buildA (by rfl) ?_ | (refine Gs.box ?_; intro _) | (refine Gs.alloc ?_; intro _) | refine Gs.store ?_ | refine G.retc ?_ | refine Gs.dr ?_ | refine G.qadd (by omega) ?_ | refine G.qsub (by omega) ?_ | refine G.qmul (by omega) ?_ | refine G.qkp ?_ | refine Gs.qkb ?_ | refine G.withT ?_ | refine Gs.withb ?_ | refine G.ift ?_ | refine G.iff ?_ | refine G.gdtt ?_ | refine G.gdff ?_ | refine G.gdtf ?_ | refine G.gdft ?_ | (refine G.jk ?_; intro _)))
           refine G.ifd ?_ ?_ <;> intro hc2
           · (repeat (first | refine G.add (by omega) ?_ | refine G.sub (by omega) ?_ | refine G.mul (by omega) ?_ | refine G.neg (by omega) ?_ | refine G.quo (by omega) (by omega) ?_ | refine G.rem (by omega) ?_ | refine G.shr (by omega) ?_ | refine G.conv (by omega) ?_ | refine G.step ?_ | refine G.buildA (by rfl) ?_ | (refine Gs.box ?_; intro _) | (refine Gs.alloc ?_; intro _) | refine Gs.store ?_ | refine G.retc ?_ | refine Gs.dr ?_ | refine G.qadd (by omega) ?_ | refine G.qsub (by omega) ?_ | refine G.qmul (by omega) ?_ | refine G.qkp ?_ | refine Gs.qkb ?_ | refine G.withT ?_ | refine Gs.withb ?_ | refine G.ift ?_ | refine G.iff ?_ | refine G.gdtt ?_ | refine G.gdff ?_ | refine G.gdtf ?_ | refine G.gdft ?_ | (refine G.jk ?_; intro _)))
             exact Gs.ret (by rw [hR hor, if_pos (by omega)])
           have hf := hfin (by omega)
           refine Gs.callv0 (power_ok x h (by omega)) ?_
           (repeat (first | refine G.add (by omega) ?_ | refine G.sub (by omega) ?_ | refine G.mul (by omega) ?_ | refine G.neg (by omega) ?_ | refine G.quo (by omega) (by omega) ?_ | refine G.rem (by omega) ?_ | refine G.shr (by omega) ?_ | refine G.conv (by omega) ?_ | refine G.step ?_ | refine G.buildA (by rfl) ?_ | (refine Gs.box ?_; intro _) | (refine Gs.alloc ?_; intro _) | refine Gs.store ?_ | refine G.retc ?_ | refine Gs.dr ?_ | refine G.qadd (by omega) ?_ | refine G.qsub (by omega) ?_ | refine G.qmul (by omega) ?_ | refine G.qkp ?_ | refine Gs.qkb ?_ | refine G.withT ?_ | refine Gs.withb ?_ | refine G.ift ?_ | refine G.iff ?_ | refine G.gdtt ?_ | refine G.gdff ?_ | refine G.gdtf ?_ | refine G.gdft ?_ | (refine G.jk ?_; intro _)))
           refine Gs.callv0 (made_ok _ _ h (by omega) (by omega)) ?_
           (repeat (first | refine G.add (by omega) ?_ | refine G.sub (by omega) ?_ | refine G.mul (by omega) ?_ | refine G.neg (by omega) ?_ | refine G.quo (by omega) (by omega) ?_ | refine G.rem (by omega) ?_ | refine G.shr (by omega) ?_ | refine G.conv (by omega) ?_ | refine G.step ?_ | refine G.buildA (by rfl) ?_ | (refine Gs.box ?_; intro _) | (refine Gs.alloc ?_; intro _) | refine Gs.store ?_ | refine G.retc ?_ | refine Gs.dr ?_ | refine G.qadd (by omega) ?_ | refine G.qsub (by omega) ?_ | refine G.qmul (by omega) ?_ | refine G.qkp ?_ | refine Gs.qkb ?_ | refine G.withT ?_ | refine Gs.withb ?_ | refine G.ift ?_ | refine G.iff ?_ | refine G.gdtt ?_ | refine G.gdff ?_ | refine G.gdtf ?_ | refine G.gdft ?_ | (refine G.jk ?_; intro _)))
           exact Gs.ret (by rw [hR hor, if_neg (by omega)]))
        | (have hf := hfin (by omega)
           (repeat (first | refine G.add (by omega) ?_ | refine G.sub (by omega) ?_ | refine G.mul (by omega) ?_ | refine G.neg (by omega) ?_ | refine G.quo (by omega) (by omega) ?_ | refine G.rem (by omega) ?_ | refine G.shr (by omega) ?_ | refine G.conv (by omega) ?_ | refine G.step ?_ | refine G.buildA (by rfl) ?_ | (refine Gs.box ?_; intro _) | (refine Gs.alloc ?_; intro _) | refine Gs.store ?_ | refine G.retc ?_ | refine Gs.dr ?_ | refine G.qadd (by omega) ?_ | refine G.qsub (by omega) ?_ | refine G.qmul (by omega) ?_ | refine G.qkp ?_ | refine Gs.qkb ?_ | refine G.withT ?_ | refine Gs.withb ?_ | refine G.ift ?_ | refine G.iff ?_ | refine G.gdtt ?_ | refine G.gdff ?_ | refine G.gdtf ?_ | refine G.gdft ?_ | (refine G.jk ?_; intro _)))
           refine Gs.callv0 (made_ok _ _ h (by omega) (by omega)) ?_
           (repeat (first | refine G.add (by omega) ?_ | refine G.sub (by omega) ?_ | refine G.mul (by omega) ?_ | refine G.neg (by omega) ?_ | refine G.quo (by omega) (by omega) ?_ | refine G.rem (by omega) ?_ | refine G.shr (by omega) ?_ | refine G.conv (by omega) ?_ | refine G.step ?_ | refine G.buildA (by rfl) ?_ | (refine Gs.box ?_; intro _) | (refine Gs.alloc ?_; intro _) | refine Gs.store ?_ | refine G.retc ?_ | refine Gs.dr ?_ | refine G.qadd (by omega) ?_ | refine G.qsub (by omega) ?_ | refine G.qmul (by omega) ?_ | refine G.qkp ?_ | refine Gs.qkb ?_ | refine G.withT ?_ | refine Gs.withb ?_ | refine G.ift ?_ | refine G.iff ?_ | refine G.gdtt ?_ | refine G.gdff ?_ | refine G.gdtf ?_ | refine G.gdft ?_ | (refine G.jk ?_; intro _)))
           exact Gs.ret (by rw [hR hor, if_neg (by omega)]))
  · (repeat (first | refine G.add (by omega) ?_ | refine G.sub (by omega) ?_ | refine G.mul (by omega) ?_ | refine G.neg (by omega) ?_ | refine G.quo (by omega) (by omega) ?_ | refine G.rem (by omega) ?_ | refine G.shr (by omega) ?_ | refine G.conv (by omega) ?_ | refine G.step ?_ | refine G.buildA (by rfl) ?_ | (refine Gs.box ?_; intro _) | (refine Gs.alloc ?_; intro _) | refine Gs.store ?_ | refine G.retc ?_ | refine Gs.dr ?_ | refine G.qadd (by omega) ?_ | refine G.qsub (by omega) ?_ | refine G.qmul (by omega) ?_ | refine G.qkp ?_ | refine Gs.qkb ?_ | refine G.withT ?_ | refine Gs.withb ?_ | refine G.ift ?_ | refine G.iff ?_ | refine G.gdtt ?_ | refine G.gdff ?_ | refine G.gdtf ?_ | refine G.gdft ?_ | (refine G.jk ?_; intro _)))
    rw [show (rs n e + rs m f) % 1073741824 = rs n e + rs m f by omega, show (rs n e + rs m f) / 1073741824 = 0 by omega, Int.add_zero] at e1
    have hT0 : 0 ≤ rs n e + rs m f := by omega
    have hT1 : rs n e + rs m f < 1073741824 := by omega
    have hW0 : -2199023255553 ≤ wh n e + wh m f := by omega
    have hW1 : wh n e + wh m f ≤ 2199023255553 := by omega
    generalize rs n e + rs m f = T at *
    generalize wh n e + wh m f = W at *
    generalize addF n e m f = R at *
    clear hw1 hw2 hr1 hr2
    have hx00 := strip_le 30 T
    refine Gs.lp (β := Int × Nat) (fun b => (I b.1, I b.2)) (fun _ => h) (fun _ => _) (fun b => strip b.2 b.1 = strip 30 T ∧ b.2 ≤ 30 ∧ 0 ≤ b.1 ∧ b.1 < 1073741824) (fun b => b.2) (T, 30) rfl ⟨rfl, by omega, hT0, hT1⟩ (fun _ h => h) ?_
    rintro ⟨t, x⟩ ⟨hs, hx, ht0, ht1⟩ cont hc
    dsimp only at *
    have hev := tmod2 t
    have hp := two_pow_pos x
    have hb : (2 : Int) ^ x ≤ 1073741824 := by have := two_pow_le hx; simpa using this
    have hq : 0 ≤ 1099511627776 / (2 : Int) ^ x ∧ 1099511627776 / (2 : Int) ^ x ≤ 1099511627776 := ⟨Int.ediv_nonneg (by decide) (Int.le_of_lt hp), Int.ediv_le_self _ (by decide)⟩
    have hm : 1099511627776 / (2 : Int) ^ x * 2 ^ x ≤ 1099511627776 := Int.ediv_mul_le _ (by omega)
    have t1 : (1099511627776 : Int).tdiv (2 ^ x) = 1099511627776 / 2 ^ x := Int.tdiv_eq_ediv_of_nonneg (by decide)
    have t2 := ntdiv (2 ^ x) hp
    have hR : (x = 0 ∨ t % 2 = 1) → R = if 1099511627776 / 2 ^ x < W ∨ W < -(1099511627776 / 2 ^ x) - 1 then (0, 0, 190) else made (W * 2 ^ x + t) x := by
      intro hodd
      rw [← hs, strip_of_odd x t hodd] at e1
      exact e1
    have hx0 : x = 0 → 1099511627776 / (2 : Int) ^ x = 1099511627776 := by rintro rfl; rfl
    generalize 1099511627776 / (2 : Int) ^ x = M at *
    have hfin : ¬ (M < W ∨ W < -M - 1) → -9223372036854775808 ≤ W * 2 ^ x ∧ W * 2 ^ x ≤ 9223372036854775807 ∧ -9223372036854775808 ≤ W * 2 ^ x + t ∧ W * 2 ^ x + t ≤ 9223372036854775807 := by
      intro hc
      have b1 : W * 2 ^ x ≤ (M + 1) * 2 ^ x := Int.mul_le_mul_of_nonneg_right (by omega) (by omega)
      have b2 : (-M - 1) * 2 ^ x ≤ W * 2 ^ x := Int.mul_le_mul_of_nonneg_right (by omega) (by omega)
      rw [Int.add_mul] at b1
      rw [Int.sub_mul, Int.neg_mul] at b2
      omega
    by_cases hx1 : x = 0
    · subst hx1
      have pw0 : Ct Tryd.prog 44 [I 0] h (fun _ v => v = I 1) := power_ok 0 h (by omega)
      have hR := hR (Or.inl rfl)
      rw [Int.pow_zero, Int.mul_one] at hfin
      rw [Int.pow_zero, Int.mul_one] at hR
      have e0 : ((0 : Nat) : Int) = 0 := rfl
      rw [e0] at hR
      simp only [e0]
      ((repeat (first | refine G.add (by omega) ?_ | refine G.sub (by omega) ?_ | refine G.mul (by omega) ?_ | refine G.neg (by omega) ?_ | refine G.quo (by omega) (by omega) ?_ | refine G.rem (by omega) ?_ | refine G.shr (by omega) ?_ | refine G.conv (by omega) ?_ | refine G.step ?_ | refine G.buildA (by rfl) ?_ | (refine Gs.box ?_; intro _) | (refine Gs.alloc ?_; intro _) | refine Gs.store ?_ | refine G.retc ?_ | refine Gs.dr ?_ | refine G.qadd (by omega) ?_ | refine G.qsub (by omega) ?_ | refine G.qmul (by omega) ?_ | refine G.qkp ?_ | refine Gs.qkb ?_ | refine G.withT ?_ | refine Gs.withb ?_ | refine G.ift ?_ | refine G.iff ?_ | refine G.gdtt ?_ | refine G.gdff ?_ | refine G.gdtf ?_ | refine G.gdft ?_ | refine G.jn ?_ | (refine G.jk ?_; intro _))); repeat (any_goals ((first | (refine G.ifd ?_ ?_ <;> intro _) | (refine G.ifb ?_ ?_ <;> intro _) | (refine G.gddt ?_ ?_ <;> intro _) | (refine G.gddf ?_ ?_ <;> intro _) | (refine G.gdbt ?_ ?_ <;> intro _) | (refine G.gdbf ?_ ?_ <;> intro _)) <;> (try (exfalso; omega; done)) <;> (repeat (first | refine G.add (by omega) ?_ | refine G.sub (by omega) ?_ | refine G.mul (by omega) ?_ | refine G.neg (by omega) ?_ | refine G.quo (by omega) (by omega) ?_ | refine G.rem (by omega) ?_ | refine G.shr (by omega) ?_ | refine G.conv (by omega) ?_ | refine G.step ?_ | refine G.buildA (by rfl) ?_ | (refine Gs.box ?_; intro _) | (refine Gs.alloc ?_; intro _) | refine Gs.store ?_ | refine G.retc ?_ | refine Gs.dr ?_ | refine G.qadd (by omega) ?_ | refine G.qsub (by omega) ?_ | refine G.qmul (by omega) ?_ | refine G.qkp ?_ | refine Gs.qkb ?_ | refine G.withT ?_ | refine Gs.withb ?_ | refine G.ift ?_ | refine G.iff ?_ | refine G.gdtt ?_ | refine G.gdff ?_ | refine G.gdtf ?_ | refine G.gdft ?_ | refine G.jn ?_ | (refine G.jk ?_; intro _))))))
      all_goals first
        | exact Gs.ret (by rw [hR, if_pos (by omega)])
        | skip
      all_goals
        have hf := hfin (by omega)
        refine Gs.callv0 pw0 ?_
        refine G.mul (by omega) ?_
        rw [Int.mul_one]
        (repeat (first | refine G.add (by omega) ?_ | refine G.sub (by omega) ?_ | refine G.mul (by omega) ?_ | refine G.neg (by omega) ?_ | refine G.quo (by omega) (by omega) ?_ | refine G.rem (by omega) ?_ | refine G.shr (by omega) ?_ | refine G.conv (by omega) ?_ | refine G.step ?_ | refine G.buildA (by rfl) ?_ | (refine Gs.box ?_; intro _) | (refine Gs.alloc ?_; intro _) | refine Gs.store ?_ | refine G.retc ?_ | refine Gs.dr ?_ | refine G.qadd (by omega) ?_ | refine G.qsub (by omega) ?_ | refine G.qmul (by omega) ?_ | refine G.qkp ?_ | refine Gs.qkb ?_ | refine G.withT ?_ | refine Gs.withb ?_ | refine G.ift ?_ | refine G.iff ?_ | refine G.gdtt ?_ | refine G.gdff ?_ | refine G.gdtf ?_ | refine G.gdft ?_ | (refine G.jk ?_; intro _)))
        refine Gs.callv0 (made_ok _ _ h (by omega) (by omega)) ?_
        (repeat (first | refine G.add (by omega) ?_ | refine G.sub (by omega) ?_ | refine G.mul (by omega) ?_ | refine G.neg (by omega) ?_ | refine G.quo (by omega) (by omega) ?_ | refine G.rem (by omega) ?_ | refine G.shr (by omega) ?_ | refine G.conv (by omega) ?_ | refine G.step ?_ | refine G.buildA (by rfl) ?_ | (refine Gs.box ?_; intro _) | (refine Gs.alloc ?_; intro _) | refine Gs.store ?_ | refine G.retc ?_ | refine Gs.dr ?_ | refine G.qadd (by omega) ?_ | refine G.qsub (by omega) ?_ | refine G.qmul (by omega) ?_ | refine G.qkp ?_ | refine Gs.qkb ?_ | refine G.withT ?_ | refine Gs.withb ?_ | refine G.ift ?_ | refine G.iff ?_ | refine G.gdtt ?_ | refine G.gdff ?_ | refine G.gdtf ?_ | refine G.gdft ?_ | (refine G.jk ?_; intro _)))
        exact Gs.ret (by rw [hR, if_neg (by omega)])
    ((repeat (first | refine G.add (by omega) ?_ | refine G.sub (by omega) ?_ | refine G.mul (by omega) ?_ | refine G.neg (by omega) ?_ | refine G.quo (by omega) (by omega) ?_ | refine G.rem (by omega) ?_ | refine G.shr (by omega) ?_ | refine G.conv (by omega) ?_ | refine G.step ?_ | refine G.buildA (by rfl) ?_ | (refine Gs.box ?_; intro _) | (refine Gs.alloc ?_; intro _) | refine Gs.store ?_ | refine G.retc ?_ | refine Gs.dr ?_ | refine G.qadd (by omega) ?_ | refine G.qsub (by omega) ?_ | refine G.qmul (by omega) ?_ | refine G.qkp ?_ | refine Gs.qkb ?_ | refine G.withT ?_ | refine Gs.withb ?_ | refine G.ift ?_ | refine G.iff ?_ | refine G.gdtt ?_ | refine G.gdff ?_ | refine G.gdtf ?_ | refine G.gdft ?_ | refine G.jn ?_ | (refine G.jk ?_; intro _))); repeat (any_goals ((first | (refine G.ifd ?_ ?_ <;> intro _) | (refine G.ifb ?_ ?_ <;> intro _) | (refine G.gddt ?_ ?_ <;> intro _) | (refine G.gddf ?_ ?_ <;> intro _) | (refine G.gdbt ?_ ?_ <;> intro _) | (refine G.gdbf ?_ ?_ <;> intro _)) <;> (try (exfalso; omega; done)) <;> (repeat (first | refine G.add (by omega) ?_ | refine G.sub (by omega) ?_ | refine G.mul (by omega) ?_ | refine G.neg (by omega) ?_ | refine G.quo (by omega) (by omega) ?_ | refine G.rem (by omega) ?_ | refine G.shr (by omega) ?_ | refine G.conv (by omega) ?_ | refine G.step ?_ | refine G.buildA (by rfl) ?_ | (refine Gs.box ?_; intro _) | (refine Gs.alloc ?_; intro _) | refine Gs.store ?_ | refine G.retc ?_ | refine Gs.dr ?_ | refine G.qadd (by omega) ?_ | refine G.qsub (by omega) ?_ | refine G.qmul (by omega) ?_ | refine G.qkp ?_ | refine Gs.qkb ?_ | refine G.withT ?_ | refine Gs.withb ?_ | refine G.ift ?_ | refine G.iff ?_ | refine G.gdtt ?_ | refine G.gdff ?_ | refine G.gdtf ?_ | refine G.gdft ?_ | refine G.jn ?_ | (refine G.jk ?_; intro _))))))
    all_goals first
      | exact Gs.go (hc (t / 2, x - 1) ⟨by
          rw [← hs]
          obtain ⟨y, rfl⟩ : ∃ y, x = y + 1 := ⟨x - 1, by omega⟩
          conv => rhs; unfold strip
          rw [if_pos (by omega)]; rfl, by omega, by omega, by omega⟩ (by omega)) (by
          rw [tdiv2 t (by omega)]
          dsimp only
          rw [show ((x - 1 : Nat) : Int) = (x : Int) - 1 by omega])
      | exact Gs.ret (by rw [hR (by omega), if_pos (by omega)])
      | skip
    all_goals
      refine Gs.callv0 (power_ok x h (by omega)) ?_
      have hor : x = 0 ∨ t % 2 = 1 := by omega
      first
        | (refine G.quo (by omega) (by omega) ?_
           rw [t1]
           (repeat (first | refine G.add (by omega) ?_ | refine G.sub (by omega) ?_ | refine G.mul (by omega) ?_ | refine G.neg (by omega) ?_ | refine G.quo (by omega) (by omega) ?_ | refine G.rem (by omega) ?_ | refine G.shr (by omega) ?_ | refine G.conv (by omega) ?_ | refine G.step ?_ | refine G.buildA (by rfl) ?_ | (refine Gs.box ?_; intro _) | (refine Gs.alloc ?_; intro _) | refine Gs.store ?_ | refine G.retc ?_ | refine Gs.dr ?_ | refine G.qadd (by omega) ?_ | refine G.qsub (by omega) ?_ | refine G.qmul (by omega) ?_ | refine G.qkp ?_ | refine Gs.qkb ?_ | refine G.withT ?_ | refine Gs.withb ?_ | refine G.ift ?_ | refine G.iff ?_ | refine G.gdtt ?_ | refine G.gdff ?_ | refine G.gdtf ?_ | refine G.gdft ?_ | refine G.jn ?_ | (refine G.jk ?_; intro _)))
           refine G.gddf ?_ ?_ <;> intro hc1
           · (repeat (first | refine G.add (by omega) ?_ | refine G.sub (by omega) ?_ | refine G.mul (by omega) ?_ | refine G.neg (by omega) ?_ | refine G.quo (by omega) (by omega) ?_ | refine G.rem (by omega) ?_ | refine G.shr (by omega) ?_ | refine G.conv (by omega) ?_ | refine G.step ?_ | refine G.buildA (by rfl) ?_ | (refine Gs.box ?_; intro _) | (refine Gs.alloc ?_; intro _) | refine Gs.store ?_ | refine G.retc ?_ | refine Gs.dr ?_ | refine G.qadd (by omega) ?_ | refine G.qsub (by omega) ?_ | refine G.qmul (by omega) ?_ | refine G.qkp ?_ | refine Gs.qkb ?_ | refine G.withT ?_ | refine Gs.withb ?_ | refine G.ift ?_ | refine G.iff ?_ | refine G.gdtt ?_ | refine G.gdff ?_ | refine G.gdtf ?_ | refine G.gdft ?_ | (refine G.jk ?_; intro _)))
             exact Gs.ret (by rw [hR hor, if_pos (by omega)])
           refine Gs.callv0 (power_ok x h (by omega)) ?_
           refine G.quo (by omega) (by omega) ?_
           rw [t2]
           (repeat (first | refine G.add (by omega) ?_ | refine G.sub (by omega) ?_ | refine G.mul (by omega) ?_ | refine G.neg (by omega) ?_ | refine G.quo (by omega) (by omega) ?_ | refine G.rem (by omega) ?_ | refine G.shr (by omega) ?_ | refine G.conv (by omega) ?_ | refine G.step ?_ | refine G.buildA (by rfl) ?_ | (refine Gs.box ?_; intro _) | (refine Gs.alloc ?_; intro _) | refine Gs.store ?_ | refine G.retc ?_ | refine Gs.dr ?_ | refine G.qadd (by omega) ?_ | refine G.qsub (by omega) ?_ | refine G.qmul (by omega) ?_ | refine G.qkp ?_ | refine Gs.qkb ?_ | refine G.withT ?_ | refine Gs.withb ?_ | refine G.ift ?_ | refine G.iff ?_ | refine G.gdtt ?_ | refine G.gdff ?_ | refine G.gdtf ?_ | refine G.gdft ?_ | (refine G.jk ?_; intro _)))
           refine G.ifd ?_ ?_ <;> intro hc2
           · (repeat (first | refine G.add (by omega) ?_ | refine G.sub (by omega) ?_ | refine G.mul (by omega) ?_ | refine G.neg (by omega) ?_ | refine G.quo (by omega) (by omega) ?_ | refine G.rem (by omega) ?_ | refine G.shr (by omega) ?_ | refine G.conv (by omega) ?_ | refine G.step ?_ | refine G.buildA (by rfl) ?_ | (refine Gs.box ?_; intro _) | (refine Gs.alloc ?_; intro _) | refine Gs.store ?_ | refine G.retc ?_ | refine Gs.dr ?_ | refine G.qadd (by omega) ?_ | refine G.qsub (by omega) ?_ | refine G.qmul (by omega) ?_ | refine G.qkp ?_ | refine Gs.qkb ?_ | refine G.withT ?_ | refine Gs.withb ?_ | refine G.ift ?_ | refine G.iff ?_ | refine G.gdtt ?_ | refine G.gdff ?_ | refine G.gdtf ?_ | refine G.gdft ?_ | (refine G.jk ?_; intro _)))
             exact Gs.ret (by rw [hR hor, if_pos (by omega)])
           have hf := hfin (by omega)
           refine Gs.callv0 (power_ok x h (by omega)) ?_
           (repeat (first | refine G.add (by omega) ?_ | refine G.sub (by omega) ?_ | refine G.mul (by omega) ?_ | refine G.neg (by omega) ?_ | refine G.quo (by omega) (by omega) ?_ | refine G.rem (by omega) ?_ | refine G.shr (by omega) ?_ | refine G.conv (by omega) ?_ | refine G.step ?_ | refine G.buildA (by rfl) ?_ | (refine Gs.box ?_; intro _) | (refine Gs.alloc ?_; intro _) | refine Gs.store ?_ | refine G.retc ?_ | refine Gs.dr ?_ | refine G.qadd (by omega) ?_ | refine G.qsub (by omega) ?_ | refine G.qmul (by omega) ?_ | refine G.qkp ?_ | refine Gs.qkb ?_ | refine G.withT ?_ | refine Gs.withb ?_ | refine G.ift ?_ | refine G.iff ?_ | refine G.gdtt ?_ | refine G.gdff ?_ | refine G.gdtf ?_ | refine G.gdft ?_ | (refine G.jk ?_; intro _)))
           refine Gs.callv0 (made_ok _ _ h (by omega) (by omega)) ?_
           (repeat (first | refine G.add (by omega) ?_ | refine G.sub (by omega) ?_ | refine G.mul (by omega) ?_ | refine G.neg (by omega) ?_ | refine G.quo (by omega) (by omega) ?_ | refine G.rem (by omega) ?_ | refine G.shr (by omega) ?_ | refine G.conv (by omega) ?_ | refine G.step ?_ | refine G.buildA (by rfl) ?_ | (refine Gs.box ?_; intro _) | (refine Gs.alloc ?_; intro _) | refine Gs.store ?_ | refine G.retc ?_ | refine Gs.dr ?_ | refine G.qadd (by omega) ?_ | refine G.qsub (by omega) ?_ | refine G.qmul (by omega) ?_ | refine G.qkp ?_ | refine Gs.qkb ?_ | refine G.withT ?_ | refine Gs.withb ?_ | refine G.ift ?_ | refine G.iff ?_ | refine G.gdtt ?_ | refine G.gdff ?_ | refine G.gdtf ?_ | refine G.gdft ?_ | (refine G.jk ?_; intro _)))
           exact Gs.ret (by rw [hR hor, if_neg (by omega)]))
        | (have hf := hfin (by omega)
           (repeat (first | refine G.add (by omega) ?_ | refine G.sub (by omega) ?_ | refine G.mul (by omega) ?_ | refine G.neg (by omega) ?_ | refine G.quo (by omega) (by omega) ?_ | refine G.rem (by omega) ?_ | refine G.shr (by omega) ?_ | refine G.conv (by omega) ?_ | refine G.step ?_ | refine G.buildA (by rfl) ?_ | (refine Gs.box ?_; intro _) | (refine Gs.alloc ?_; intro _) | refine Gs.store ?_ | refine G.retc ?_ | refine Gs.dr ?_ | refine G.qadd (by omega) ?_ | refine G.qsub (by omega) ?_ | refine G.qmul (by omega) ?_ | refine G.qkp ?_ | refine Gs.qkb ?_ | refine G.withT ?_ | refine Gs.withb ?_ | refine G.ift ?_ | refine G.iff ?_ | refine G.gdtt ?_ | refine G.gdff ?_ | refine G.gdtf ?_ | refine G.gdft ?_ | (refine G.jk ?_; intro _)))
           refine Gs.callv0 (made_ok _ _ h (by omega) (by omega)) ?_
           (repeat (first | refine G.add (by omega) ?_ | refine G.sub (by omega) ?_ | refine G.mul (by omega) ?_ | refine G.neg (by omega) ?_ | refine G.quo (by omega) (by omega) ?_ | refine G.rem (by omega) ?_ | refine G.shr (by omega) ?_ | refine G.conv (by omega) ?_ | refine G.step ?_ | refine G.buildA (by rfl) ?_ | (refine Gs.box ?_; intro _) | (refine Gs.alloc ?_; intro _) | refine Gs.store ?_ | refine G.retc ?_ | refine Gs.dr ?_ | refine G.qadd (by omega) ?_ | refine G.qsub (by omega) ?_ | refine G.qmul (by omega) ?_ | refine G.qkp ?_ | refine Gs.qkb ?_ | refine G.withT ?_ | refine Gs.withb ?_ | refine G.ift ?_ | refine G.iff ?_ | refine G.gdtt ?_ | refine G.gdff ?_ | refine G.gdtf ?_ | refine G.gdft ?_ | (refine G.jk ?_; intro _)))
           exact Gs.ret (by rw [hR hor, if_neg (by omega)]))
end Go.Proofs.YtcapijkioaocmaaDoor
end

section
set_option linter.unusedVariables false
set_option maxHeartbeats 4000000
namespace Go.Proofs.YtcapijkioaocmaaDoor
open Go Go.Sk Go.Dy
/-- A fraction of any numbers. -/
def rawN (a x b : Int) : Int :=
  let n1 := if b % 8 = 7 then a * 512 else a
  let n2 := if b = 255 then 1099511627776 - x else n1
  let n3 := if b = 254 then -1099511627776 + x else n2
  max (-1099511627776) (min n3 1099511627776)
def rawF (a x b : Int) : Int × Nat := strip (x % 31).toNat (rawN a x b)
theorem rawF_valid (a x b : Int) : Valid (rawF a x b).1 (rawF a x b).2 := by
  have h1 : -1099511627776 ≤ rawN a x b ∧ rawN a x b ≤ 1099511627776 := by unfold rawN; dsimp only; omega
  have h2 := strip_le (x % 31).toNat (rawN a x b)
  have h3 := strip_odd (x % 31).toNat (rawN a x b)
  have h4 := strip_abs (x % 31).toNat (rawN a x b) 1099511627776 h1.1 h1.2 (by decide)
  unfold rawF
  exact ⟨by omega, h4.1, h4.2, h3⟩
theorem rawF_made (a x b : Int) (hx : 0 ≤ x) : made (rawN a x b) (x % 31) = ((rawF a x b).1, ((rawF a x b).2 : Int), 0) := by
  obtain ⟨k, hk⟩ := Int.eq_ofNat_of_zero_le (by omega : 0 ≤ x % 31)
  have hv := (validB_iff _ _).2 (rawF_valid a x b)
  have e : rawF a x b = strip k (rawN a x b) := by unfold rawF; rw [hk, Int.toNat_natCast]
  rw [hk, made_of (m := (rawF a x b).1) (x := (rawF a x b).2) (by omega) (by rw [e]), if_pos hv]
theorem rawN_bd (a x b : Int) : -1099511627776 ≤ rawN a x b ∧ rawN a x b ≤ 1099511627776 := by unfold rawN; dsimp only; omega
attribute [irreducible] rawN rawF
instance : TFieldV Tryd.prog 31 0 0 2 true := ⟨by kernel_rfl⟩
abbrev Raw (a x b : Int) : Value := .agg #[.int .i32 a, .int .u8 x, .int .u8 b]
theorem Frac_ok (a x b : Int) (h : Hp) (ha : -2147483648 ≤ a ∧ a ≤ 2147483647) (hx : 0 ≤ x ∧ x ≤ 255) (hb : 0 ≤ b ∧ b ≤ 255) : Ct Tryd.prog 12 [Raw a x b] h (fun _ v => v = Fr2 (rawF a x b).1 (rawF a x b).2) := by
  refine ct12 ?_
  intro w0
  unfold s12
  have hm := rawF_made a x b hx.1
  have t1 : x.tmod 31 = x % 31 := Int.tmod_eq_emod_of_nonneg hx.1
  have t2 : b.tmod 8 = b % 8 := Int.tmod_eq_emod_of_nonneg hb.1
  (repeat (first | refine G.add (by omega) ?_ | refine G.sub (by omega) ?_ | refine G.mul (by omega) ?_ | refine G.neg (by omega) ?_ | refine G.quo (by omega) (by omega) ?_ | refine G.rem (by omega) ?_ | refine G.shr (by omega) ?_ | refine G.conv (by omega) ?_ | refine G.step ?_ | refine G.buildA (by rfl) ?_ | (refine Gs.box ?_; intro _) | (refine Gs.alloc ?_; intro _) | refine Gs.store ?_ | refine G.retc ?_ | refine Gs.dr ?_ | refine G.qadd (by omega) ?_ | refine G.qsub (by omega) ?_ | refine G.qmul (by omega) ?_ | refine G.qkp ?_ | refine Gs.qkb ?_ | refine G.withT ?_ | refine Gs.withb ?_ | refine G.ift ?_ | refine G.iff ?_ | refine G.gdtt ?_ | refine G.gdff ?_ | refine G.gdtf ?_ | refine G.gdft ?_ | (refine G.jk ?_; intro _)))
  rw [t1]
  (repeat (first | refine G.add (by omega) ?_ | refine G.sub (by omega) ?_ | refine G.mul (by omega) ?_ | refine G.neg (by omega) ?_ | refine G.quo (by omega) (by omega) ?_ | refine G.rem (by omega) ?_ | refine G.shr (by omega) ?_ | refine G.conv (by omega) ?_ | refine G.step ?_ | refine G.buildA (by rfl) ?_ | (refine Gs.box ?_; intro _) | (refine Gs.alloc ?_; intro _) | refine Gs.store ?_ | refine G.retc ?_ | refine Gs.dr ?_ | refine G.qadd (by omega) ?_ | refine G.qsub (by omega) ?_ | refine G.qmul (by omega) ?_ | refine G.qkp ?_ | refine Gs.qkb ?_ | refine G.withT ?_ | refine Gs.withb ?_ | refine G.ift ?_ | refine G.iff ?_ | refine G.gdtt ?_ | refine G.gdff ?_ | refine G.gdtf ?_ | refine G.gdft ?_ | refine G.jn ?_ | (refine G.jk ?_; intro _)))
  have hmb := rawN_bd a x b
  refine G.remk (by decide) ?_
  rw [t2]
  ((repeat (first | refine G.add (by omega) ?_ | refine G.sub (by omega) ?_ | refine G.mul (by omega) ?_ | refine G.neg (by omega) ?_ | refine G.quo (by omega) (by omega) ?_ | refine G.rem (by omega) ?_ | refine G.shr (by omega) ?_ | refine G.conv (by omega) ?_ | refine G.step ?_ | refine G.buildA (by rfl) ?_ | (refine Gs.box ?_; intro _) | (refine Gs.alloc ?_; intro _) | refine Gs.store ?_ | refine G.retc ?_ | refine Gs.dr ?_ | refine G.qadd (by omega) ?_ | refine G.qsub (by omega) ?_ | refine G.qmul (by omega) ?_ | refine G.qkp ?_ | refine Gs.qkb ?_ | refine G.withT ?_ | refine Gs.withb ?_ | refine G.ift ?_ | refine G.iff ?_ | refine G.gdtt ?_ | refine G.gdff ?_ | refine G.gdtf ?_ | refine G.gdft ?_ | refine G.jn ?_ | (refine G.jk ?_; intro _))); repeat (any_goals ((first | (refine G.ifd ?_ ?_ <;> intro _) | (refine G.ifb ?_ ?_ <;> intro _) | (refine G.gddt ?_ ?_ <;> intro _) | (refine G.gddf ?_ ?_ <;> intro _) | (refine G.gdbt ?_ ?_ <;> intro _) | (refine G.gdbf ?_ ?_ <;> intro _)) <;> (try (exfalso; omega; done)) <;> (repeat (first | refine G.add (by omega) ?_ | refine G.sub (by omega) ?_ | refine G.mul (by omega) ?_ | refine G.neg (by omega) ?_ | refine G.quo (by omega) (by omega) ?_ | refine G.rem (by omega) ?_ | refine G.shr (by omega) ?_ | refine G.conv (by omega) ?_ | refine G.step ?_ | refine G.buildA (by rfl) ?_ | (refine Gs.box ?_; intro _) | (refine Gs.alloc ?_; intro _) | refine Gs.store ?_ | refine G.retc ?_ | refine Gs.dr ?_ | refine G.qadd (by omega) ?_ | refine G.qsub (by omega) ?_ | refine G.qmul (by omega) ?_ | refine G.qkp ?_ | refine Gs.qkb ?_ | refine G.withT ?_ | refine Gs.withb ?_ | refine G.ift ?_ | refine G.iff ?_ | refine G.gdtt ?_ | refine G.gdff ?_ | refine G.gdtf ?_ | refine G.gdft ?_ | refine G.jn ?_ | (refine G.jk ?_; intro _))))))
  all_goals
    refine Gs.callve (args' := [I (rawN a x b), I (x % 31)]) ?_ (made_ok (rawN a x b) (x % 31) h (by omega) (by omega)) ?_
    · refine congrArg (fun z => [I z, I (x % 31)]) ?_
      unfold rawN
      dsimp only
      omega
    rw [hm]
    (repeat (first | refine G.add (by omega) ?_ | refine G.sub (by omega) ?_ | refine G.mul (by omega) ?_ | refine G.neg (by omega) ?_ | refine G.quo (by omega) (by omega) ?_ | refine G.rem (by omega) ?_ | refine G.shr (by omega) ?_ | refine G.conv (by omega) ?_ | refine G.step ?_ | refine G.buildA (by rfl) ?_ | (refine Gs.box ?_; intro _) | (refine Gs.alloc ?_; intro _) | refine Gs.store ?_ | refine G.retc ?_ | refine Gs.dr ?_ | refine G.qadd (by omega) ?_ | refine G.qsub (by omega) ?_ | refine G.qmul (by omega) ?_ | refine G.qkp ?_ | refine Gs.qkb ?_ | refine G.withT ?_ | refine Gs.withb ?_ | refine G.ift ?_ | refine G.iff ?_ | refine G.gdtt ?_ | refine G.gdff ?_ | refine G.gdtf ?_ | refine G.gdft ?_ | (refine G.jk ?_; intro _)))
    exact Gs.ret rfl
theorem inside_ok (n : Int) (e : Nat) (m : Int) (f : Nat) (g : Int) (k : Nat) (h : Hp) (h1 : validB n e = true → Valid n e) (hf : Valid m f) (hg : Valid g k) (n' e' : Int) (hn : n' = n) (he : e' = e) : Ct Tryd.prog 31 [Fr2 n e, Fr2 m f, Fr2 g k] h (fun _ v => v = .bool (validB n e && decide (cmpI (val m f) (val n e) < 0) && decide (cmpI (val n e) (val g k) < 0))) := by
  refine ct31 ?_
  intro w0
  unfold s31
  (repeat (first | refine G.add (by omega) ?_ | refine G.sub (by omega) ?_ | refine G.mul (by omega) ?_ | refine G.neg (by omega) ?_ | refine G.quo (by omega) (by omega) ?_ | refine G.rem (by omega) ?_ | refine G.shr (by omega) ?_ | refine G.conv (by omega) ?_ | refine G.step ?_ | refine G.buildA (by rfl) ?_ | (refine Gs.box ?_; intro _) | (refine Gs.alloc ?_; intro _) | refine Gs.store ?_ | refine G.retc ?_ | refine Gs.dr ?_ | refine G.qadd (by omega) ?_ | refine G.qsub (by omega) ?_ | refine G.qmul (by omega) ?_ | refine G.qkp ?_ | refine Gs.qkb ?_ | refine G.withT ?_ | refine Gs.withb ?_ | refine G.ift ?_ | refine G.iff ?_ | refine G.gdtt ?_ | refine G.gdff ?_ | refine G.gdtf ?_ | refine G.gdft ?_ | (refine G.jk ?_; intro _)))
  refine Gs.callv0 (rvalid_ok n e h) ?_
  (repeat (first | refine G.add (by omega) ?_ | refine G.sub (by omega) ?_ | refine G.mul (by omega) ?_ | refine G.neg (by omega) ?_ | refine G.quo (by omega) (by omega) ?_ | refine G.rem (by omega) ?_ | refine G.shr (by omega) ?_ | refine G.conv (by omega) ?_ | refine G.step ?_ | refine G.buildA (by rfl) ?_ | (refine Gs.box ?_; intro _) | (refine Gs.alloc ?_; intro _) | refine Gs.store ?_ | refine G.retc ?_ | refine Gs.dr ?_ | refine G.qadd (by omega) ?_ | refine G.qsub (by omega) ?_ | refine G.qmul (by omega) ?_ | refine G.qkp ?_ | refine Gs.qkb ?_ | refine G.withT ?_ | refine Gs.withb ?_ | refine G.ift ?_ | refine G.iff ?_ | refine G.gdtt ?_ | refine G.gdff ?_ | refine G.gdtf ?_ | refine G.gdft ?_ | (refine G.jk ?_; intro _)))
  refine G.gdbt ?_ ?_ <;> intro hv
  · have hn := h1 hv
    (repeat (first | refine G.add (by omega) ?_ | refine G.sub (by omega) ?_ | refine G.mul (by omega) ?_ | refine G.neg (by omega) ?_ | refine G.quo (by omega) (by omega) ?_ | refine G.rem (by omega) ?_ | refine G.shr (by omega) ?_ | refine G.conv (by omega) ?_ | refine G.step ?_ | refine G.buildA (by rfl) ?_ | (refine Gs.box ?_; intro _) | (refine Gs.alloc ?_; intro _) | refine Gs.store ?_ | refine G.retc ?_ | refine Gs.dr ?_ | refine G.qadd (by omega) ?_ | refine G.qsub (by omega) ?_ | refine G.qmul (by omega) ?_ | refine G.qkp ?_ | refine Gs.qkb ?_ | refine G.withT ?_ | refine Gs.withb ?_ | refine G.ift ?_ | refine G.iff ?_ | refine G.gdtt ?_ | refine G.gdff ?_ | refine G.gdtf ?_ | refine G.gdft ?_ | (refine G.jk ?_; intro _)))
    refine Gs.callv0 (rcompare_ok m f n e h hf hn) ?_
    rw [cmp_val m f n e hf.1 hn.1]
    (repeat (first | refine G.add (by omega) ?_ | refine G.sub (by omega) ?_ | refine G.mul (by omega) ?_ | refine G.neg (by omega) ?_ | refine G.quo (by omega) (by omega) ?_ | refine G.rem (by omega) ?_ | refine G.shr (by omega) ?_ | refine G.conv (by omega) ?_ | refine G.step ?_ | refine G.buildA (by rfl) ?_ | (refine Gs.box ?_; intro _) | (refine Gs.alloc ?_; intro _) | refine Gs.store ?_ | refine G.retc ?_ | refine Gs.dr ?_ | refine G.qadd (by omega) ?_ | refine G.qsub (by omega) ?_ | refine G.qmul (by omega) ?_ | refine G.qkp ?_ | refine Gs.qkb ?_ | refine G.withT ?_ | refine Gs.withb ?_ | refine G.ift ?_ | refine G.iff ?_ | refine G.gdtt ?_ | refine G.gdff ?_ | refine G.gdtf ?_ | refine G.gdft ?_ | (refine G.jk ?_; intro _)))
    refine G.gddt ?_ ?_ <;> intro hc
    · (repeat (first | refine G.add (by omega) ?_ | refine G.sub (by omega) ?_ | refine G.mul (by omega) ?_ | refine G.neg (by omega) ?_ | refine G.quo (by omega) (by omega) ?_ | refine G.rem (by omega) ?_ | refine G.shr (by omega) ?_ | refine G.conv (by omega) ?_ | refine G.step ?_ | refine G.buildA (by rfl) ?_ | (refine Gs.box ?_; intro _) | (refine Gs.alloc ?_; intro _) | refine Gs.store ?_ | refine G.retc ?_ | refine Gs.dr ?_ | refine G.qadd (by omega) ?_ | refine G.qsub (by omega) ?_ | refine G.qmul (by omega) ?_ | refine G.qkp ?_ | refine Gs.qkb ?_ | refine G.withT ?_ | refine Gs.withb ?_ | refine G.ift ?_ | refine G.iff ?_ | refine G.gdtt ?_ | refine G.gdff ?_ | refine G.gdtf ?_ | refine G.gdft ?_ | (refine G.jk ?_; intro _)))
      refine Gs.callv0 (rcompare_ok n e g k h hn hg) ?_
      rw [cmp_val n e g k hn.1 hg.1]
      (repeat (first | refine G.add (by omega) ?_ | refine G.sub (by omega) ?_ | refine G.mul (by omega) ?_ | refine G.neg (by omega) ?_ | refine G.quo (by omega) (by omega) ?_ | refine G.rem (by omega) ?_ | refine G.shr (by omega) ?_ | refine G.conv (by omega) ?_ | refine G.step ?_ | refine G.buildA (by rfl) ?_ | (refine Gs.box ?_; intro _) | (refine Gs.alloc ?_; intro _) | refine Gs.store ?_ | refine G.retc ?_ | refine Gs.dr ?_ | refine G.qadd (by omega) ?_ | refine G.qsub (by omega) ?_ | refine G.qmul (by omega) ?_ | refine G.qkp ?_ | refine Gs.qkb ?_ | refine G.withT ?_ | refine Gs.withb ?_ | refine G.ift ?_ | refine G.iff ?_ | refine G.gdtt ?_ | refine G.gdff ?_ | refine G.gdtf ?_ | refine G.gdft ?_ | (refine G.jk ?_; intro _)))
      exact Gs.ret (by rw [hv]; simp [hc])
    · (repeat (first | refine G.add (by omega) ?_ | refine G.sub (by omega) ?_ | refine G.mul (by omega) ?_ | refine G.neg (by omega) ?_ | refine G.quo (by omega) (by omega) ?_ | refine G.rem (by omega) ?_ | refine G.shr (by omega) ?_ | refine G.conv (by omega) ?_ | refine G.step ?_ | refine G.buildA (by rfl) ?_ | (refine Gs.box ?_; intro _) | (refine Gs.alloc ?_; intro _) | refine Gs.store ?_ | refine G.retc ?_ | refine Gs.dr ?_ | refine G.qadd (by omega) ?_ | refine G.qsub (by omega) ?_ | refine G.qmul (by omega) ?_ | refine G.qkp ?_ | refine Gs.qkb ?_ | refine G.withT ?_ | refine Gs.withb ?_ | refine G.ift ?_ | refine G.iff ?_ | refine G.gdtt ?_ | refine G.gdff ?_ | refine G.gdtf ?_ | refine G.gdft ?_ | (refine G.jk ?_; intro _)))
      exact Gs.ret (by rw [hv]; simp [hc])
  · exact Gs.ret (by rw [hv]; rfl)
end Go.Proofs.YtcapijkioaocmaaDoor
end

section
set_option linter.unusedVariables false
set_option maxHeartbeats 4000000
namespace Go.Proofs.YtcapijkioaocmaaDoor
open Go Go.Sk Go.Dy
theorem rAdd_ok (n : Int) (e : Nat) (m : Int) (f : Nat) (h : Hp) (he : Valid n e) (hf : Valid m f) : Ct Tryd.prog 20 [Fr2 n e, Fr2 m f] h (fun _ v => v = Two (norm (val n e + val m f))) := by
  refine ct20 ?_
  intro w0
  unfold s20
  (repeat (first | refine G.add (by omega) ?_ | refine G.sub (by omega) ?_ | refine G.mul (by omega) ?_ | refine G.neg (by omega) ?_ | refine G.quo (by omega) (by omega) ?_ | refine G.rem (by omega) ?_ | refine G.shr (by omega) ?_ | refine G.conv (by omega) ?_ | refine G.step ?_ | refine G.buildA (by rfl) ?_ | (refine Gs.box ?_; intro _) | (refine Gs.alloc ?_; intro _) | refine Gs.store ?_ | refine G.retc ?_ | refine Gs.dr ?_ | refine G.qadd (by omega) ?_ | refine G.qsub (by omega) ?_ | refine G.qmul (by omega) ?_ | refine G.qkp ?_ | refine Gs.qkb ?_ | refine G.withT ?_ | refine Gs.withb ?_ | refine G.ift ?_ | refine G.iff ?_ | refine G.gdtt ?_ | refine G.gdff ?_ | refine G.gdtf ?_ | refine G.gdft ?_ | (refine G.jk ?_; intro _)))
  refine Gs.callv0 (added_ok n e m f h he hf) ?_
  rw [addF_val n e m f he.1 hf.1]
  (repeat (first | refine G.add (by omega) ?_ | refine G.sub (by omega) ?_ | refine G.mul (by omega) ?_ | refine G.neg (by omega) ?_ | refine G.quo (by omega) (by omega) ?_ | refine G.rem (by omega) ?_ | refine G.shr (by omega) ?_ | refine G.conv (by omega) ?_ | refine G.step ?_ | refine G.buildA (by rfl) ?_ | (refine Gs.box ?_; intro _) | (refine Gs.alloc ?_; intro _) | refine Gs.store ?_ | refine G.retc ?_ | refine Gs.dr ?_ | refine G.qadd (by omega) ?_ | refine G.qsub (by omega) ?_ | refine G.qmul (by omega) ?_ | refine G.qkp ?_ | refine Gs.qkb ?_ | refine G.withT ?_ | refine Gs.withb ?_ | refine G.ift ?_ | refine G.iff ?_ | refine G.gdtt ?_ | refine G.gdff ?_ | refine G.gdtf ?_ | refine G.gdft ?_ | (refine G.jk ?_; intro _)))
  exact Gs.ret rfl
def twoW (a b : Int) (k : Nat) : Int := if k = 0 then 0 else if k = 1 then a else a + b
theorem Add_ok (n : Int) (e : Nat) (m : Int) (f : Nat) (h : Hp) (he : Valid n e) (hf : Valid m f) (ht : TzTab h) : Ct Tryd.prog 19 [Fr2 n e, Fr2 m f] h (fun _ v => v = Two (norm (val n e + val m f))) := by
  rw [← addF_val n e m f he.1 hf.1]
  obtain ⟨he, hn, hn', _⟩ := he
  obtain ⟨hf, hm, hm', _⟩ := hf
  refine ct19 ?_
  intro w0
  unfold s19
  have hw1 := wh_bd n e 1099511627776 hn hn' (by decide)
  have hw2 := wh_bd m f 1099511627776 hm hm' (by decide)
  have hr1 := rs_bd n e he
  have hr2 := rs_bd m f hf
  have e1 : addF n e m f = (let t := rs n e + rs m f
    let w := wh n e + wh m f + t / 1073741824
    let p := strip 30 (t % 1073741824)
    if 1099511627776 / 2 ^ p.2 < w ∨ w < -(1099511627776 / 2 ^ p.2) - 1 then (0, 0, 190) else made (w * 2 ^ p.2 + p.1) p.2) := by unfold addF; rfl
  dsimp only at e1
  (repeat (first | refine G.add (by omega) ?_ | refine G.sub (by omega) ?_ | refine G.mul (by omega) ?_ | refine G.neg (by omega) ?_ | refine G.quo (by omega) (by omega) ?_ | refine G.rem (by omega) ?_ | refine G.shr (by omega) ?_ | refine G.conv (by omega) ?_ | refine G.step ?_ | refine G.buildA (by rfl) ?_ | (refine Gs.box ?_; intro _) | (refine Gs.alloc ?_; intro _) | refine Gs.store ?_ | refine G.retc ?_ | refine Gs.dr ?_ | refine G.qadd (by omega) ?_ | refine G.qsub (by omega) ?_ | refine G.qmul (by omega) ?_ | refine G.qkp ?_ | refine Gs.qkb ?_ | refine G.withT ?_ | refine Gs.withb ?_ | refine G.ift ?_ | refine G.iff ?_ | refine G.gdtt ?_ | refine G.gdff ?_ | refine G.gdtf ?_ | refine G.gdft ?_ | (refine G.jk ?_; intro _)))
  refine Gs.callv0 (rest_ok n e h he) ?_
  (repeat (first | refine G.add (by omega) ?_ | refine G.sub (by omega) ?_ | refine G.mul (by omega) ?_ | refine G.neg (by omega) ?_ | refine G.quo (by omega) (by omega) ?_ | refine G.rem (by omega) ?_ | refine G.shr (by omega) ?_ | refine G.conv (by omega) ?_ | refine G.step ?_ | refine G.buildA (by rfl) ?_ | (refine Gs.box ?_; intro _) | (refine Gs.alloc ?_; intro _) | refine Gs.store ?_ | refine G.retc ?_ | refine Gs.dr ?_ | refine G.qadd (by omega) ?_ | refine G.qsub (by omega) ?_ | refine G.qmul (by omega) ?_ | refine G.qkp ?_ | refine Gs.qkb ?_ | refine G.withT ?_ | refine Gs.withb ?_ | refine G.ift ?_ | refine G.iff ?_ | refine G.gdtt ?_ | refine G.gdff ?_ | refine G.gdtf ?_ | refine G.gdft ?_ | (refine G.jk ?_; intro _)))
  refine Gs.callv0 (rest_ok m f h hf) ?_
  (repeat (first | refine G.add (by omega) ?_ | refine G.sub (by omega) ?_ | refine G.mul (by omega) ?_ | refine G.neg (by omega) ?_ | refine G.quo (by omega) (by omega) ?_ | refine G.rem (by omega) ?_ | refine G.shr (by omega) ?_ | refine G.conv (by omega) ?_ | refine G.step ?_ | refine G.buildA (by rfl) ?_ | (refine Gs.box ?_; intro _) | (refine Gs.alloc ?_; intro _) | refine Gs.store ?_ | refine G.retc ?_ | refine Gs.dr ?_ | refine G.qadd (by omega) ?_ | refine G.qsub (by omega) ?_ | refine G.qmul (by omega) ?_ | refine G.qkp ?_ | refine Gs.qkb ?_ | refine G.withT ?_ | refine Gs.withb ?_ | refine G.ift ?_ | refine G.iff ?_ | refine G.gdtt ?_ | refine G.gdff ?_ | refine G.gdtf ?_ | refine G.gdft ?_ | (refine G.jk ?_; intro _)))
  refine Gs.lp (β := Nat) (fun k => (I (twoW (wh n e) (wh m f) k), I k)) (fun _ => h) (fun _ => _) (fun k => k ≤ 2) (fun k => 2 - k) 0 rfl (by decide) (fun _ h => h) ?_
  rintro k hk cont hc
  dsimp only at *
  have e20 : twoW (wh n e) (wh m f) 0 = 0 := rfl
  have e21 : twoW (wh n e) (wh m f) 1 = wh n e := rfl
  have e22 : twoW (wh n e) (wh m f) 2 = wh n e + wh m f := rfl
  obtain rfl | rfl | rfl : k = 0 ∨ k = 1 ∨ k = 2 := by omega
  · rw [e20]
    (repeat (first | refine G.add (by omega) ?_ | refine G.sub (by omega) ?_ | refine G.mul (by omega) ?_ | refine G.neg (by omega) ?_ | refine G.quo (by omega) (by omega) ?_ | refine G.rem (by omega) ?_ | refine G.shr (by omega) ?_ | refine G.conv (by omega) ?_ | refine G.step ?_ | refine G.buildA (by rfl) ?_ | (refine Gs.box ?_; intro _) | (refine Gs.alloc ?_; intro _) | refine Gs.store ?_ | refine G.retc ?_ | refine Gs.dr ?_ | refine G.qadd (by omega) ?_ | refine G.qsub (by omega) ?_ | refine G.qmul (by omega) ?_ | refine G.qkp ?_ | refine Gs.qkb ?_ | refine G.withT ?_ | refine Gs.withb ?_ | refine G.ift ?_ | refine G.iff ?_ | refine G.gdtt ?_ | refine G.gdff ?_ | refine G.gdtf ?_ | refine G.gdft ?_ | (refine G.jk ?_; intro _)))
    refine G.indexV1 ⟨by decide, by decide⟩ rfl ?_
    refine Gs.first ?_
    refine Gs.callve (args' := [Fr2 n e, I ((0 : Nat) : Int)]) rfl (floor_ok n e 0 h he (by omega)) ?_
    rw [floor0]
    (repeat (first | refine G.add (by omega) ?_ | refine G.sub (by omega) ?_ | refine G.mul (by omega) ?_ | refine G.neg (by omega) ?_ | refine G.quo (by omega) (by omega) ?_ | refine G.rem (by omega) ?_ | refine G.shr (by omega) ?_ | refine G.conv (by omega) ?_ | refine G.step ?_ | refine G.buildA (by rfl) ?_ | (refine Gs.box ?_; intro _) | (refine Gs.alloc ?_; intro _) | refine Gs.store ?_ | refine G.retc ?_ | refine Gs.dr ?_ | refine G.qadd (by omega) ?_ | refine G.qsub (by omega) ?_ | refine G.qmul (by omega) ?_ | refine G.qkp ?_ | refine Gs.qkb ?_ | refine G.withT ?_ | refine Gs.withb ?_ | refine G.ift ?_ | refine G.iff ?_ | refine G.gdtt ?_ | refine G.gdff ?_ | refine G.gdtf ?_ | refine G.gdft ?_ | (refine G.jk ?_; intro _)))
    exact Gs.go (hc 1 (by omega) (by omega)) (by rw [e21, Int.zero_add]; rfl)
  · rw [e21]
    (repeat (first | refine G.add (by omega) ?_ | refine G.sub (by omega) ?_ | refine G.mul (by omega) ?_ | refine G.neg (by omega) ?_ | refine G.quo (by omega) (by omega) ?_ | refine G.rem (by omega) ?_ | refine G.shr (by omega) ?_ | refine G.conv (by omega) ?_ | refine G.step ?_ | refine G.buildA (by rfl) ?_ | (refine Gs.box ?_; intro _) | (refine Gs.alloc ?_; intro _) | refine Gs.store ?_ | refine G.retc ?_ | refine Gs.dr ?_ | refine G.qadd (by omega) ?_ | refine G.qsub (by omega) ?_ | refine G.qmul (by omega) ?_ | refine G.qkp ?_ | refine Gs.qkb ?_ | refine G.withT ?_ | refine Gs.withb ?_ | refine G.ift ?_ | refine G.iff ?_ | refine G.gdtt ?_ | refine G.gdff ?_ | refine G.gdtf ?_ | refine G.gdft ?_ | (refine G.jk ?_; intro _)))
    refine G.indexV1 ⟨by decide, by decide⟩ rfl ?_
    refine Gs.first ?_
    refine Gs.callve (args' := [Fr2 m f, I ((0 : Nat) : Int)]) rfl (floor_ok m f 0 h hf (by omega)) ?_
    rw [floor0]
    (repeat (first | refine G.add (by omega) ?_ | refine G.sub (by omega) ?_ | refine G.mul (by omega) ?_ | refine G.neg (by omega) ?_ | refine G.quo (by omega) (by omega) ?_ | refine G.rem (by omega) ?_ | refine G.shr (by omega) ?_ | refine G.conv (by omega) ?_ | refine G.step ?_ | refine G.buildA (by rfl) ?_ | (refine Gs.box ?_; intro _) | (refine Gs.alloc ?_; intro _) | refine Gs.store ?_ | refine G.retc ?_ | refine Gs.dr ?_ | refine G.qadd (by omega) ?_ | refine G.qsub (by omega) ?_ | refine G.qmul (by omega) ?_ | refine G.qkp ?_ | refine Gs.qkb ?_ | refine G.withT ?_ | refine Gs.withb ?_ | refine G.ift ?_ | refine G.iff ?_ | refine G.gdtt ?_ | refine G.gdff ?_ | refine G.gdtf ?_ | refine G.gdft ?_ | (refine G.jk ?_; intro _)))
    exact Gs.go (hc 2 (by omega) (by omega)) (by rw [e22]; rfl)
  · rw [e22]
    refine G.jk ?_
    intro _
    refine G.step ?_
    refine G.iff ?_
    refine G.shr (by omega) ?_
    rw [show (30 : Int).toNat = 30 from rfl, show (2 : Int) ^ 30 = 1073741824 by decide]
    (repeat (first | refine G.add (by omega) ?_ | refine G.sub (by omega) ?_ | refine G.mul (by omega) ?_ | refine G.neg (by omega) ?_ | refine G.quo (by omega) (by omega) ?_ | refine G.rem (by omega) ?_ | refine G.shr (by omega) ?_ | refine G.conv (by omega) ?_ | refine G.step ?_ | refine G.buildA (by rfl) ?_ | (refine Gs.box ?_; intro _) | (refine Gs.alloc ?_; intro _) | refine Gs.store ?_ | refine G.retc ?_ | refine Gs.dr ?_ | refine G.qadd (by omega) ?_ | refine G.qsub (by omega) ?_ | refine G.qmul (by omega) ?_ | refine G.qkp ?_ | refine Gs.qkb ?_ | refine G.withT ?_ | refine Gs.withb ?_ | refine G.ift ?_ | refine G.iff ?_ | refine G.gdtt ?_ | refine G.gdff ?_ | refine G.gdtf ?_ | refine G.gdft ?_ | (refine G.jk ?_; intro _)))
    refine G.land 30 (by decide) (by decide) ?_
    rw [show (2 : Int) ^ 30 = 1073741824 by decide]
    have hr0 : 0 ≤ (rs n e + rs m f) % 1073741824 ∧ (rs n e + rs m f) % 1073741824 < 1073741824 := by omega
    have hW0 : -2199023255556 ≤ wh n e + wh m f + (rs n e + rs m f) / 1073741824 ∧ wh n e + wh m f + (rs n e + rs m f) / 1073741824 ≤ 2199023255556 := by omega
    generalize (rs n e + rs m f) % 1073741824 = r at *
    generalize wh n e + wh m f + (rs n e + rs m f) / 1073741824 = W at *
    have tail : ∀ (x : Nat) (q : Int), x ≤ 30 → strip 30 r = (q, x) → r / 2 ^ (30 - x) = q ∧ addF n e m f = (if 1099511627776 / 2 ^ x < W ∨ W < -(1099511627776 / 2 ^ x) - 1 then (0, 0, 190) else made (W * 2 ^ x + q) x) ∧ 0 ≤ 1099511627776 / (2 : Int) ^ x ∧ 1099511627776 / (2 : Int) ^ x ≤ 1099511627776 ∧ (¬ (1099511627776 / 2 ^ x < W ∨ W < -(1099511627776 / 2 ^ x) - 1) → -9223372036854775808 ≤ W * 2 ^ x ∧ W * 2 ^ x ≤ 9223372036854775807 ∧ -9223372036854775808 ≤ W * 2 ^ x + q ∧ W * 2 ^ x + q ≤ 9223372036854775807) := by
      intro x q hx hs
      have hp := two_pow_pos x
      have hb : (2 : Int) ^ x ≤ 1073741824 := by have := two_pow_le hx; simpa using this
      have hq : 0 ≤ 1099511627776 / (2 : Int) ^ x ∧ 1099511627776 / (2 : Int) ^ x ≤ 1099511627776 := ⟨Int.ediv_nonneg (by decide) (Int.le_of_lt hp), Int.ediv_le_self _ (by decide)⟩
      have hm : 1099511627776 / (2 : Int) ^ x * 2 ^ x ≤ 1099511627776 := Int.ediv_mul_le _ (by omega)
      have hv := strip_val 30 r
      rw [hs] at hv
      dsimp only at hv
      have hp' := two_pow_pos (30 - x)
      have hd : r / 2 ^ (30 - x) = q := by rw [← hv]; exact Int.mul_ediv_cancel _ (by omega)
      have hqb : 0 ≤ q ∧ q ≤ r := by rw [← hd]; exact ⟨Int.ediv_nonneg hr0.1 (Int.le_of_lt hp'), Int.ediv_le_self _ hr0.1⟩
      rw [hs] at e1
      refine ⟨hd, e1, hq.1, hq.2, ?_⟩
      generalize 1099511627776 / (2 : Int) ^ x = M at *
      intro hc
      have b1 : W * 2 ^ x ≤ (M + 1) * 2 ^ x := Int.mul_le_mul_of_nonneg_right (by omega) (by omega)
      have b2 : (-M - 1) * 2 ^ x ≤ W * 2 ^ x := Int.mul_le_mul_of_nonneg_right (by omega) (by omega)
      rw [Int.add_mul] at b1
      rw [Int.sub_mul, Int.neg_mul] at b2
      omega
    clear e1 hc
    refine G.jn ?_
    (repeat (first | refine G.add (by omega) ?_ | refine G.sub (by omega) ?_ | refine G.mul (by omega) ?_ | refine G.neg (by omega) ?_ | refine G.quo (by omega) (by omega) ?_ | refine G.rem (by omega) ?_ | refine G.shr (by omega) ?_ | refine G.conv (by omega) ?_ | refine G.step ?_ | refine G.buildA (by rfl) ?_ | (refine Gs.box ?_; intro _) | (refine Gs.alloc ?_; intro _) | refine Gs.store ?_ | refine G.retc ?_ | refine Gs.dr ?_ | refine G.qadd (by omega) ?_ | refine G.qsub (by omega) ?_ | refine G.qmul (by omega) ?_ | refine G.qkp ?_ | refine Gs.qkb ?_ | refine G.withT ?_ | refine Gs.withb ?_ | refine G.ift ?_ | refine G.iff ?_ | refine G.gdtt ?_ | refine G.gdff ?_ | refine G.gdtf ?_ | refine G.gdft ?_ | (refine G.jk ?_; intro _)))
    refine G.ifd ?_ ?_ <;> intro hr
    · refine G.step ?_
      refine Gs.callv0 (tzn_ok r h (by omega) (by omega) (by omega) ht) ?_
      have hs := strip_tz r 30 (by omega) (by omega) (by omega)
      have htz : tz r < 30 := tz_lt r (by omega) (by omega)
      rw [Nat.min_eq_right (by omega)] at hs
      obtain ⟨hrq, hR, hq0, hq1, hfin⟩ := tail (30 - tz r) _ (by omega) hs
      have hX : ((30 : Int) - (tz r : Int)).toNat = 30 - tz r := by omega
      have hX' : ((30 : Int) - ((30 : Int) - (tz r : Int))).toNat = 30 - (30 - tz r) := by omega
      have hXx : ((30 - tz r : Nat) : Int) = (30 : Int) - (tz r : Int) := by omega
      generalize r / 2 ^ tz r = q at *
      generalize hM : 1099511627776 / (2 : Int) ^ (30 - tz r) = M at *
      refine G.sub (by omega) ?_
      refine G.jk ?_
      intro _
      refine G.shr (by omega) ?_
      rw [hX, hM]
      (repeat (first | refine G.add (by omega) ?_ | refine G.sub (by omega) ?_ | refine G.mul (by omega) ?_ | refine G.neg (by omega) ?_ | refine G.quo (by omega) (by omega) ?_ | refine G.rem (by omega) ?_ | refine G.shr (by omega) ?_ | refine G.conv (by omega) ?_ | refine G.step ?_ | refine G.buildA (by rfl) ?_ | (refine Gs.box ?_; intro _) | (refine Gs.alloc ?_; intro _) | refine Gs.store ?_ | refine G.retc ?_ | refine Gs.dr ?_ | refine G.qadd (by omega) ?_ | refine G.qsub (by omega) ?_ | refine G.qmul (by omega) ?_ | refine G.qkp ?_ | refine Gs.qkb ?_ | refine G.withT ?_ | refine Gs.withb ?_ | refine G.ift ?_ | refine G.iff ?_ | refine G.gdtt ?_ | refine G.gdff ?_ | refine G.gdtf ?_ | refine G.gdft ?_ | refine G.jn ?_ | (refine G.jk ?_; intro _)))
      refine G.gddf ?_ ?_ <;> intro hc1
      · (repeat (first | refine G.add (by omega) ?_ | refine G.sub (by omega) ?_ | refine G.mul (by omega) ?_ | refine G.neg (by omega) ?_ | refine G.quo (by omega) (by omega) ?_ | refine G.rem (by omega) ?_ | refine G.shr (by omega) ?_ | refine G.conv (by omega) ?_ | refine G.step ?_ | refine G.buildA (by rfl) ?_ | (refine Gs.box ?_; intro _) | (refine Gs.alloc ?_; intro _) | refine Gs.store ?_ | refine G.retc ?_ | refine Gs.dr ?_ | refine G.qadd (by omega) ?_ | refine G.qsub (by omega) ?_ | refine G.qmul (by omega) ?_ | refine G.qkp ?_ | refine Gs.qkb ?_ | refine G.withT ?_ | refine Gs.withb ?_ | refine G.ift ?_ | refine G.iff ?_ | refine G.gdtt ?_ | refine G.gdff ?_ | refine G.gdtf ?_ | refine G.gdft ?_ | (refine G.jk ?_; intro _)))
        exact Gs.ret (by rw [hR, if_pos (by omega)])
      (repeat (first | refine G.add (by omega) ?_ | refine G.sub (by omega) ?_ | refine G.mul (by omega) ?_ | refine G.neg (by omega) ?_ | refine G.quo (by omega) (by omega) ?_ | refine G.rem (by omega) ?_ | refine G.shr (by omega) ?_ | refine G.conv (by omega) ?_ | refine G.step ?_ | refine G.buildA (by rfl) ?_ | (refine Gs.box ?_; intro _) | (refine Gs.alloc ?_; intro _) | refine Gs.store ?_ | refine G.retc ?_ | refine Gs.dr ?_ | refine G.qadd (by omega) ?_ | refine G.qsub (by omega) ?_ | refine G.qmul (by omega) ?_ | refine G.qkp ?_ | refine Gs.qkb ?_ | refine G.withT ?_ | refine Gs.withb ?_ | refine G.ift ?_ | refine G.iff ?_ | refine G.gdtt ?_ | refine G.gdff ?_ | refine G.gdtf ?_ | refine G.gdft ?_ | (refine G.jk ?_; intro _)))
      refine G.ifd ?_ ?_ <;> intro hc2
      · (repeat (first | refine G.add (by omega) ?_ | refine G.sub (by omega) ?_ | refine G.mul (by omega) ?_ | refine G.neg (by omega) ?_ | refine G.quo (by omega) (by omega) ?_ | refine G.rem (by omega) ?_ | refine G.shr (by omega) ?_ | refine G.conv (by omega) ?_ | refine G.step ?_ | refine G.buildA (by rfl) ?_ | (refine Gs.box ?_; intro _) | (refine Gs.alloc ?_; intro _) | refine Gs.store ?_ | refine G.retc ?_ | refine Gs.dr ?_ | refine G.qadd (by omega) ?_ | refine G.qsub (by omega) ?_ | refine G.qmul (by omega) ?_ | refine G.qkp ?_ | refine Gs.qkb ?_ | refine G.withT ?_ | refine Gs.withb ?_ | refine G.ift ?_ | refine G.iff ?_ | refine G.gdtt ?_ | refine G.gdff ?_ | refine G.gdtf ?_ | refine G.gdft ?_ | (refine G.jk ?_; intro _)))
        exact Gs.ret (by rw [hR, if_pos (by omega)])
      have hf := hfin (by omega)
      haveI := Yd.shl (P := Tryd.prog) (S := TrueC) (t := 3) (yk := .i64) (a := W) (y := (30 - (tz r : Int))) ⟨by omega, by omega⟩ (by rw [hX]; omega)
      (repeat (first | refine G.add (by omega) ?_ | refine G.sub (by omega) ?_ | refine G.mul (by omega) ?_ | refine G.neg (by omega) ?_ | refine G.quo (by omega) (by omega) ?_ | refine G.rem (by omega) ?_ | refine G.shr (by omega) ?_ | refine G.conv (by omega) ?_ | refine G.step ?_ | refine G.buildA (by rfl) ?_ | (refine Gs.box ?_; intro _) | (refine Gs.alloc ?_; intro _) | refine Gs.store ?_ | refine G.retc ?_ | refine Gs.dr ?_ | refine G.qadd (by omega) ?_ | refine G.qsub (by omega) ?_ | refine G.qmul (by omega) ?_ | refine G.qkp ?_ | refine Gs.qkb ?_ | refine G.withT ?_ | refine Gs.withb ?_ | refine G.ift ?_ | refine G.iff ?_ | refine G.gdtt ?_ | refine G.gdff ?_ | refine G.gdtf ?_ | refine G.gdft ?_ | (refine G.jk ?_; intro _)))
      rw [hX]
      haveI := Yd.shr (P := Tryd.prog) (S := TrueC) (t := 3) (yk := .i64) (a := r) (y := 30 - (30 - (tz r : Int))) ⟨by omega, by omega⟩
      refine G.qkp ?_
      rw [hX', hrq]
      refine G.qadd (by omega) ?_
      refine Gs.callv0 (make_ok _ _ h (by omega) (by omega) ht) ?_
      (repeat (first | refine G.add (by omega) ?_ | refine G.sub (by omega) ?_ | refine G.mul (by omega) ?_ | refine G.neg (by omega) ?_ | refine G.quo (by omega) (by omega) ?_ | refine G.rem (by omega) ?_ | refine G.shr (by omega) ?_ | refine G.conv (by omega) ?_ | refine G.step ?_ | refine G.buildA (by rfl) ?_ | (refine Gs.box ?_; intro _) | (refine Gs.alloc ?_; intro _) | refine Gs.store ?_ | refine G.retc ?_ | refine Gs.dr ?_ | refine G.qadd (by omega) ?_ | refine G.qsub (by omega) ?_ | refine G.qmul (by omega) ?_ | refine G.qkp ?_ | refine Gs.qkb ?_ | refine G.withT ?_ | refine Gs.withb ?_ | refine G.ift ?_ | refine G.iff ?_ | refine G.gdtt ?_ | refine G.gdff ?_ | refine G.gdtf ?_ | refine G.gdft ?_ | (refine G.jk ?_; intro _)))
      exact Gs.ret (by rw [hR, if_neg (by omega), hXx])
    · have hs : strip 30 r = (0, 0) := by rw [show r = 0 by omega]; exact strip_zero 30
      obtain ⟨hrq, hR, hq0, hq1, hfin⟩ := tail 0 0 (by omega) hs
      have hX : (0 : Int).toNat = 0 := rfl
      have hX' : ((30 : Int) - 0).toNat = 30 - 0 := by omega
      generalize hM : 1099511627776 / (2 : Int) ^ 0 = M at *
      refine G.jk ?_
      intro _
      refine G.shr (by omega) ?_
      rw [hX, hM]
      (repeat (first | refine G.add (by omega) ?_ | refine G.sub (by omega) ?_ | refine G.mul (by omega) ?_ | refine G.neg (by omega) ?_ | refine G.quo (by omega) (by omega) ?_ | refine G.rem (by omega) ?_ | refine G.shr (by omega) ?_ | refine G.conv (by omega) ?_ | refine G.step ?_ | refine G.buildA (by rfl) ?_ | (refine Gs.box ?_; intro _) | (refine Gs.alloc ?_; intro _) | refine Gs.store ?_ | refine G.retc ?_ | refine Gs.dr ?_ | refine G.qadd (by omega) ?_ | refine G.qsub (by omega) ?_ | refine G.qmul (by omega) ?_ | refine G.qkp ?_ | refine Gs.qkb ?_ | refine G.withT ?_ | refine Gs.withb ?_ | refine G.ift ?_ | refine G.iff ?_ | refine G.gdtt ?_ | refine G.gdff ?_ | refine G.gdtf ?_ | refine G.gdft ?_ | refine G.jn ?_ | (refine G.jk ?_; intro _)))
      refine G.gddf ?_ ?_ <;> intro hc1
      · (repeat (first | refine G.add (by omega) ?_ | refine G.sub (by omega) ?_ | refine G.mul (by omega) ?_ | refine G.neg (by omega) ?_ | refine G.quo (by omega) (by omega) ?_ | refine G.rem (by omega) ?_ | refine G.shr (by omega) ?_ | refine G.conv (by omega) ?_ | refine G.step ?_ | refine G.buildA (by rfl) ?_ | (refine Gs.box ?_; intro _) | (refine Gs.alloc ?_; intro _) | refine Gs.store ?_ | refine G.retc ?_ | refine Gs.dr ?_ | refine G.qadd (by omega) ?_ | refine G.qsub (by omega) ?_ | refine G.qmul (by omega) ?_ | refine G.qkp ?_ | refine Gs.qkb ?_ | refine G.withT ?_ | refine Gs.withb ?_ | refine G.ift ?_ | refine G.iff ?_ | refine G.gdtt ?_ | refine G.gdff ?_ | refine G.gdtf ?_ | refine G.gdft ?_ | (refine G.jk ?_; intro _)))
        exact Gs.ret (by rw [hR, if_pos (by omega)])
      (repeat (first | refine G.add (by omega) ?_ | refine G.sub (by omega) ?_ | refine G.mul (by omega) ?_ | refine G.neg (by omega) ?_ | refine G.quo (by omega) (by omega) ?_ | refine G.rem (by omega) ?_ | refine G.shr (by omega) ?_ | refine G.conv (by omega) ?_ | refine G.step ?_ | refine G.buildA (by rfl) ?_ | (refine Gs.box ?_; intro _) | (refine Gs.alloc ?_; intro _) | refine Gs.store ?_ | refine G.retc ?_ | refine Gs.dr ?_ | refine G.qadd (by omega) ?_ | refine G.qsub (by omega) ?_ | refine G.qmul (by omega) ?_ | refine G.qkp ?_ | refine Gs.qkb ?_ | refine G.withT ?_ | refine Gs.withb ?_ | refine G.ift ?_ | refine G.iff ?_ | refine G.gdtt ?_ | refine G.gdff ?_ | refine G.gdtf ?_ | refine G.gdft ?_ | (refine G.jk ?_; intro _)))
      refine G.ifd ?_ ?_ <;> intro hc2
      · (repeat (first | refine G.add (by omega) ?_ | refine G.sub (by omega) ?_ | refine G.mul (by omega) ?_ | refine G.neg (by omega) ?_ | refine G.quo (by omega) (by omega) ?_ | refine G.rem (by omega) ?_ | refine G.shr (by omega) ?_ | refine G.conv (by omega) ?_ | refine G.step ?_ | refine G.buildA (by rfl) ?_ | (refine Gs.box ?_; intro _) | (refine Gs.alloc ?_; intro _) | refine Gs.store ?_ | refine G.retc ?_ | refine Gs.dr ?_ | refine G.qadd (by omega) ?_ | refine G.qsub (by omega) ?_ | refine G.qmul (by omega) ?_ | refine G.qkp ?_ | refine Gs.qkb ?_ | refine G.withT ?_ | refine Gs.withb ?_ | refine G.ift ?_ | refine G.iff ?_ | refine G.gdtt ?_ | refine G.gdff ?_ | refine G.gdtf ?_ | refine G.gdft ?_ | (refine G.jk ?_; intro _)))
        exact Gs.ret (by rw [hR, if_pos (by omega)])
      have hf := hfin (by omega)
      haveI := Yd.shl (P := Tryd.prog) (S := TrueC) (t := 3) (yk := .i64) (a := W) (y := 0) ⟨by omega, by omega⟩ (by rw [hX]; omega)
      (repeat (first | refine G.add (by omega) ?_ | refine G.sub (by omega) ?_ | refine G.mul (by omega) ?_ | refine G.neg (by omega) ?_ | refine G.quo (by omega) (by omega) ?_ | refine G.rem (by omega) ?_ | refine G.shr (by omega) ?_ | refine G.conv (by omega) ?_ | refine G.step ?_ | refine G.buildA (by rfl) ?_ | (refine Gs.box ?_; intro _) | (refine Gs.alloc ?_; intro _) | refine Gs.store ?_ | refine G.retc ?_ | refine Gs.dr ?_ | refine G.qadd (by omega) ?_ | refine G.qsub (by omega) ?_ | refine G.qmul (by omega) ?_ | refine G.qkp ?_ | refine Gs.qkb ?_ | refine G.withT ?_ | refine Gs.withb ?_ | refine G.ift ?_ | refine G.iff ?_ | refine G.gdtt ?_ | refine G.gdff ?_ | refine G.gdtf ?_ | refine G.gdft ?_ | (refine G.jk ?_; intro _)))
      rw [hX]
      haveI := Yd.shr (P := Tryd.prog) (S := TrueC) (t := 3) (yk := .i64) (a := r) (y := 30 - 0) ⟨by omega, by omega⟩
      refine G.qkp ?_
      rw [hX', hrq]
      refine G.qadd (by omega) ?_
      refine Gs.callv0 (make_ok _ _ h (by omega) (by omega) ht) ?_
      (repeat (first | refine G.add (by omega) ?_ | refine G.sub (by omega) ?_ | refine G.mul (by omega) ?_ | refine G.neg (by omega) ?_ | refine G.quo (by omega) (by omega) ?_ | refine G.rem (by omega) ?_ | refine G.shr (by omega) ?_ | refine G.conv (by omega) ?_ | refine G.step ?_ | refine G.buildA (by rfl) ?_ | (refine Gs.box ?_; intro _) | (refine Gs.alloc ?_; intro _) | refine Gs.store ?_ | refine G.retc ?_ | refine Gs.dr ?_ | refine G.qadd (by omega) ?_ | refine G.qsub (by omega) ?_ | refine G.qmul (by omega) ?_ | refine G.qkp ?_ | refine Gs.qkb ?_ | refine G.withT ?_ | refine Gs.withb ?_ | refine G.ift ?_ | refine G.iff ?_ | refine G.gdtt ?_ | refine G.gdff ?_ | refine G.gdtf ?_ | refine G.gdft ?_ | (refine G.jk ?_; intro _)))
      exact Gs.ret (by rw [hR, if_neg (by omega)]; rfl)
end Go.Proofs.YtcapijkioaocmaaDoor
end

section
set_option linter.unusedVariables false
set_option maxHeartbeats 4000000
namespace Go.Proofs.YtcapijkioaocmaaDoor
open Go Go.Sk Go.Dy
attribute [local irreducible] flP rflP oddP near
theorem validB_near (l u : Int) (x : Nat) (hle : l ≤ u) (hl : -1099511627776 ≤ l) (hu : u ≤ 1099511627776) (hx : x ≤ 30) (ho : x = 0 ∨ (l = u ∧ l % 2 = 1)) : validB (near l u) x = true ∧ l ≤ near l u ∧ near l u ≤ u := by
  have h1 : near l u = if 0 < l then l else if u < 0 then u else 0 := by unfold near; rfl
  rw [validB_iff]
  unfold Valid
  rw [h1]
  split
  · omega
  · split <;> omega
theorem between_ok (n : Int) (e : Nat) (m : Int) (f : Nat) (h : Hp) (he : Valid n e) (hf : Valid m f) : Ct Tryd.prog 41 [Fr2 n e, Fr2 m f] h (fun _ v => v = Got (btw (val n e) (val m f))) := by
  obtain ⟨he, hn, hn', _⟩ := he
  obtain ⟨hf, hm, hm', _⟩ := hf
  refine ct41 ?_
  intro w0
  unfold s41
  (repeat (first | refine G.add (by omega) ?_ | refine G.sub (by omega) ?_ | refine G.mul (by omega) ?_ | refine G.neg (by omega) ?_ | refine G.quo (by omega) (by omega) ?_ | refine G.rem (by omega) ?_ | refine G.shr (by omega) ?_ | refine G.conv (by omega) ?_ | refine G.step ?_ | refine G.buildA (by rfl) ?_ | (refine Gs.box ?_; intro _) | (refine Gs.alloc ?_; intro _) | refine Gs.store ?_ | refine G.retc ?_ | refine Gs.dr ?_ | refine G.qadd (by omega) ?_ | refine G.qsub (by omega) ?_ | refine G.qmul (by omega) ?_ | refine G.qkp ?_ | refine Gs.qkb ?_ | refine G.withT ?_ | refine Gs.withb ?_ | refine G.ift ?_ | refine G.iff ?_ | refine G.gdtt ?_ | refine G.gdff ?_ | refine G.gdtf ?_ | refine G.gdft ?_ | (refine G.jk ?_; intro _)))
  have hb0 : btwF (val n e) (val m f) 31 0 = btw (val n e) (val m f) := rfl
  generalize btw (val n e) (val m f) = R at *
  refine Gs.lp (β := Nat) (fun x => I x) (fun _ => h) (fun _ => _) (fun x => btwF (val n e) (val m f) (31 - x) x = R ∧ x ≤ 31 ∧ ∀ y, x = y + 1 → highX (val m f) y < lowX (val n e) y) (fun x => 31 - x) 0 rfl ⟨hb0, by omega, by omega⟩ (fun _ h => h) ?_
  rintro x ⟨hR, hx, hy⟩ cont hc
  (repeat (first | refine G.add (by omega) ?_ | refine G.sub (by omega) ?_ | refine G.mul (by omega) ?_ | refine G.neg (by omega) ?_ | refine G.quo (by omega) (by omega) ?_ | refine G.rem (by omega) ?_ | refine G.shr (by omega) ?_ | refine G.conv (by omega) ?_ | refine G.step ?_ | refine G.buildA (by rfl) ?_ | (refine Gs.box ?_; intro _) | (refine Gs.alloc ?_; intro _) | refine Gs.store ?_ | refine G.retc ?_ | refine Gs.dr ?_ | refine G.qadd (by omega) ?_ | refine G.qsub (by omega) ?_ | refine G.qmul (by omega) ?_ | refine G.qkp ?_ | refine Gs.qkb ?_ | refine G.withT ?_ | refine Gs.withb ?_ | refine G.ift ?_ | refine G.iff ?_ | refine G.gdtt ?_ | refine G.gdff ?_ | refine G.gdtf ?_ | refine G.gdft ?_ | (refine G.jk ?_; intro _)))
  refine G.ifd ?_ ?_ <;> intro hx30
  · have hx' : x ≤ 30 := by omega
    have hp := rflP_Fl n e x he hx' hn hn'
    have hq := rflP_Fl (-m) f x hf hx' (by omega) (by omega)
    rw [val_neg] at hq
    obtain ⟨hle, hval⟩ := Fl.bounds hp hq
    obtain ⟨_, hp1, hp2⟩ := hp
    obtain ⟨_, hq1, hq2⟩ := hq
    rw [show 31 - x = (30 - x) + 1 by omega, btwF_succ] at hR
    have ho : ∀ l u : Int, l = lowX (val n e) x → u = highX (val m f) x → l ≤ u → x = 0 ∨ (l = u ∧ l % 2 = 1) := by
      intro l u h1 h2 h3
      rcases Nat.eq_zero_or_pos x with h4 | h4
      · exact .inl h4
      · right
        obtain ⟨y, rfl⟩ : ∃ y, x = y + 1 := ⟨x - 1, by omega⟩
        obtain ⟨a1, a2⟩ := one_only _ _ y (by omega) (hy y rfl) (by rw [← h1, ← h2]; exact h3)
        rw [← h1, ← h2] at a1
        rw [← h1] at a2
        exact ⟨a1, a2⟩
    have hl0 := lowX_bd (val n e) x
    have hu0 := highX_bd (val m f) x
    refine G.jn ?_
    (repeat (first | refine G.add (by omega) ?_ | refine G.sub (by omega) ?_ | refine G.mul (by omega) ?_ | refine G.neg (by omega) ?_ | refine G.quo (by omega) (by omega) ?_ | refine G.rem (by omega) ?_ | refine G.shr (by omega) ?_ | refine G.conv (by omega) ?_ | refine G.step ?_ | refine G.buildA (by rfl) ?_ | (refine Gs.box ?_; intro _) | (refine Gs.alloc ?_; intro _) | refine Gs.store ?_ | refine G.retc ?_ | refine Gs.dr ?_ | refine G.qadd (by omega) ?_ | refine G.qsub (by omega) ?_ | refine G.qmul (by omega) ?_ | refine G.qkp ?_ | refine Gs.qkb ?_ | refine G.withT ?_ | refine Gs.withb ?_ | refine G.ift ?_ | refine G.iff ?_ | refine G.gdtt ?_ | refine G.gdff ?_ | refine G.gdtf ?_ | refine G.gdft ?_ | (refine G.jk ?_; intro _)))
    refine Gs.callv0 (rfloor_ok n e x h he hx' hn hn') ?_
    (repeat (first | refine G.add (by omega) ?_ | refine G.sub (by omega) ?_ | refine G.mul (by omega) ?_ | refine G.neg (by omega) ?_ | refine G.quo (by omega) (by omega) ?_ | refine G.rem (by omega) ?_ | refine G.shr (by omega) ?_ | refine G.conv (by omega) ?_ | refine G.step ?_ | refine G.buildA (by rfl) ?_ | (refine Gs.box ?_; intro _) | (refine Gs.alloc ?_; intro _) | refine Gs.store ?_ | refine G.retc ?_ | refine Gs.dr ?_ | refine G.qadd (by omega) ?_ | refine G.qsub (by omega) ?_ | refine G.qmul (by omega) ?_ | refine G.qkp ?_ | refine Gs.qkb ?_ | refine G.withT ?_ | refine Gs.withb ?_ | refine G.ift ?_ | refine G.iff ?_ | refine G.gdtt ?_ | refine G.gdff ?_ | refine G.gdtf ?_ | refine G.gdft ?_ | (refine G.jk ?_; intro _)))
    refine Gs.callv0 (rneg_ok m f h (by omega) (by omega)) ?_
    refine Gs.callv0 (rfloor_ok (-m) f x h hf hx' (by omega) (by omega)) ?_
    generalize rflP n e x = p at *
    generalize rflP (-m) f x = q at *
    (repeat (first | refine G.add (by omega) ?_ | refine G.sub (by omega) ?_ | refine G.mul (by omega) ?_ | refine G.neg (by omega) ?_ | refine G.quo (by omega) (by omega) ?_ | refine G.rem (by omega) ?_ | refine G.shr (by omega) ?_ | refine G.conv (by omega) ?_ | refine G.step ?_ | refine G.buildA (by rfl) ?_ | (refine Gs.box ?_; intro _) | (refine Gs.alloc ?_; intro _) | refine Gs.store ?_ | refine G.retc ?_ | refine Gs.dr ?_ | refine G.qadd (by omega) ?_ | refine G.qsub (by omega) ?_ | refine G.qmul (by omega) ?_ | refine G.qkp ?_ | refine Gs.qkb ?_ | refine G.withT ?_ | refine Gs.withb ?_ | refine G.ift ?_ | refine G.iff ?_ | refine G.gdtt ?_ | refine G.gdff ?_ | refine G.gdtf ?_ | refine G.gdft ?_ | (refine G.jk ?_; intro _)))
    generalize max (p + 1) (-1099511627776) = l at *
    generalize min (-q - 1) 1099511627776 = u at *
    refine G.ifd ?_ ?_ <;> intro hul
    · rw [if_neg (by omega)] at hR
      (repeat (first | refine G.add (by omega) ?_ | refine G.sub (by omega) ?_ | refine G.mul (by omega) ?_ | refine G.neg (by omega) ?_ | refine G.quo (by omega) (by omega) ?_ | refine G.rem (by omega) ?_ | refine G.shr (by omega) ?_ | refine G.conv (by omega) ?_ | refine G.step ?_ | refine G.buildA (by rfl) ?_ | (refine Gs.box ?_; intro _) | (refine Gs.alloc ?_; intro _) | refine Gs.store ?_ | refine G.retc ?_ | refine Gs.dr ?_ | refine G.qadd (by omega) ?_ | refine G.qsub (by omega) ?_ | refine G.qmul (by omega) ?_ | refine G.qkp ?_ | refine Gs.qkb ?_ | refine G.withT ?_ | refine Gs.withb ?_ | refine G.ift ?_ | refine G.iff ?_ | refine G.gdtt ?_ | refine G.gdff ?_ | refine G.gdtf ?_ | refine G.gdft ?_ | (refine G.jk ?_; intro _)))
      exact Gs.go (hc (x + 1) ⟨by rw [show 31 - (x + 1) = 30 - x by omega]; exact hR, by omega, fun y hy' => by
        have : x = y := by omega
        subst this
        omega⟩ (by omega)) rfl
    · have hlu : lowX (val n e) x ≤ highX (val m f) x := hle.1 (by omega)
      obtain ⟨e1, e2⟩ := hval hlu
      rw [if_pos hlu, ← e1, ← e2] at hR
      have ho := ho l u e1 e2 (by omega)
      rw [← e1] at hl0
      rw [← e2] at hu0
      have hv := validB_near l u x (by omega) hl0 hu0 hx' ho
      have hnear : near l u = if 0 < l then l else if u < 0 then u else 0 := by unfold near; rfl
      have ht2 := tmod2 l
      clear hval hle hlu e1 e2 hy hc
      ((repeat (first | refine G.add (by omega) ?_ | refine G.sub (by omega) ?_ | refine G.mul (by omega) ?_ | refine G.neg (by omega) ?_ | refine G.quo (by omega) (by omega) ?_ | refine G.rem (by omega) ?_ | refine G.shr (by omega) ?_ | refine G.conv (by omega) ?_ | refine G.step ?_ | refine G.buildA (by rfl) ?_ | (refine Gs.box ?_; intro _) | (refine Gs.alloc ?_; intro _) | refine Gs.store ?_ | refine G.retc ?_ | refine Gs.dr ?_ | refine G.qadd (by omega) ?_ | refine G.qsub (by omega) ?_ | refine G.qmul (by omega) ?_ | refine G.qkp ?_ | refine Gs.qkb ?_ | refine G.withT ?_ | refine Gs.withb ?_ | refine G.ift ?_ | refine G.iff ?_ | refine G.gdtt ?_ | refine G.gdff ?_ | refine G.gdtf ?_ | refine G.gdft ?_ | refine G.jn ?_ | (refine G.jk ?_; intro _))); repeat (any_goals ((first | (refine G.ifd ?_ ?_ <;> intro _) | (refine G.ifb ?_ ?_ <;> intro _) | (refine G.gddt ?_ ?_ <;> intro _) | (refine G.gddf ?_ ?_ <;> intro _) | (refine G.gdbt ?_ ?_ <;> intro _) | (refine G.gdbf ?_ ?_ <;> intro _)) <;> (try (exfalso; omega; done)) <;> (repeat (first | refine G.add (by omega) ?_ | refine G.sub (by omega) ?_ | refine G.mul (by omega) ?_ | refine G.neg (by omega) ?_ | refine G.quo (by omega) (by omega) ?_ | refine G.rem (by omega) ?_ | refine G.shr (by omega) ?_ | refine G.conv (by omega) ?_ | refine G.step ?_ | refine G.buildA (by rfl) ?_ | (refine Gs.box ?_; intro _) | (refine Gs.alloc ?_; intro _) | refine Gs.store ?_ | refine G.retc ?_ | refine Gs.dr ?_ | refine G.qadd (by omega) ?_ | refine G.qsub (by omega) ?_ | refine G.qmul (by omega) ?_ | refine G.qkp ?_ | refine Gs.qkb ?_ | refine G.withT ?_ | refine Gs.withb ?_ | refine G.ift ?_ | refine G.iff ?_ | refine G.gdtt ?_ | refine G.gdff ?_ | refine G.gdtf ?_ | refine G.gdft ?_ | refine G.jn ?_ | (refine G.jk ?_; intro _))))))
      all_goals first
        | (exfalso; have := ht2.1 (by assumption); omega)
        | (exfalso; have := (tmod2 u).1 (by assumption); omega)
        | skip
      all_goals
        first
          | rw [if_pos (by omega)] at hnear
          | rw [if_neg (by omega), if_pos (by omega)] at hnear
          | rw [if_neg (by omega), if_neg (by omega)] at hnear
        rw [hnear] at hv hR
        obtain ⟨hv1, hv2, hv3⟩ := hv
        refine Gs.callv0 (rvalid_ok _ x h) ?_
        rw [hv1]
        ((repeat (first | refine G.add (by omega) ?_ | refine G.sub (by omega) ?_ | refine G.mul (by omega) ?_ | refine G.neg (by omega) ?_ | refine G.quo (by omega) (by omega) ?_ | refine G.rem (by omega) ?_ | refine G.shr (by omega) ?_ | refine G.conv (by omega) ?_ | refine G.step ?_ | refine G.buildA (by rfl) ?_ | (refine Gs.box ?_; intro _) | (refine Gs.alloc ?_; intro _) | refine Gs.store ?_ | refine G.retc ?_ | refine Gs.dr ?_ | refine G.qadd (by omega) ?_ | refine G.qsub (by omega) ?_ | refine G.qmul (by omega) ?_ | refine G.qkp ?_ | refine Gs.qkb ?_ | refine G.withT ?_ | refine Gs.withb ?_ | refine G.ift ?_ | refine G.iff ?_ | refine G.gdtt ?_ | refine G.gdff ?_ | refine G.gdtf ?_ | refine G.gdft ?_ | refine G.jn ?_ | (refine G.jk ?_; intro _))); repeat (any_goals ((first | (refine G.ifd ?_ ?_ <;> intro _) | (refine G.ifb ?_ ?_ <;> intro _) | (refine G.gddt ?_ ?_ <;> intro _) | (refine G.gddf ?_ ?_ <;> intro _) | (refine G.gdbt ?_ ?_ <;> intro _) | (refine G.gdbf ?_ ?_ <;> intro _)) <;> (try (exfalso; omega; done)) <;> (repeat (first | refine G.add (by omega) ?_ | refine G.sub (by omega) ?_ | refine G.mul (by omega) ?_ | refine G.neg (by omega) ?_ | refine G.quo (by omega) (by omega) ?_ | refine G.rem (by omega) ?_ | refine G.shr (by omega) ?_ | refine G.conv (by omega) ?_ | refine G.step ?_ | refine G.buildA (by rfl) ?_ | (refine Gs.box ?_; intro _) | (refine Gs.alloc ?_; intro _) | refine Gs.store ?_ | refine G.retc ?_ | refine Gs.dr ?_ | refine G.qadd (by omega) ?_ | refine G.qsub (by omega) ?_ | refine G.qmul (by omega) ?_ | refine G.qkp ?_ | refine Gs.qkb ?_ | refine G.withT ?_ | refine Gs.withb ?_ | refine G.ift ?_ | refine G.iff ?_ | refine G.gdtt ?_ | refine G.gdff ?_ | refine G.gdtf ?_ | refine G.gdft ?_ | refine G.jn ?_ | (refine G.jk ?_; intro _))))))
        exact Gs.ret (by rw [← hR])
  · refine G.step ?_
    (repeat (first | refine G.add (by omega) ?_ | refine G.sub (by omega) ?_ | refine G.mul (by omega) ?_ | refine G.neg (by omega) ?_ | refine G.quo (by omega) (by omega) ?_ | refine G.rem (by omega) ?_ | refine G.shr (by omega) ?_ | refine G.conv (by omega) ?_ | refine G.step ?_ | refine G.buildA (by rfl) ?_ | (refine Gs.box ?_; intro _) | (refine Gs.alloc ?_; intro _) | refine Gs.store ?_ | refine G.retc ?_ | refine Gs.dr ?_ | refine G.qadd (by omega) ?_ | refine G.qsub (by omega) ?_ | refine G.qmul (by omega) ?_ | refine G.qkp ?_ | refine Gs.qkb ?_ | refine G.withT ?_ | refine Gs.withb ?_ | refine G.ift ?_ | refine G.iff ?_ | refine G.gdtt ?_ | refine G.gdff ?_ | refine G.gdtf ?_ | refine G.gdft ?_ | (refine G.jk ?_; intro _)))
    have : x = 31 := by omega
    subst this
    unfold btwF at hR
    rw [← hR]
    exact Gs.ret rfl
theorem rBetween_ok (n : Int) (e : Nat) (m : Int) (f : Nat) (h : Hp) (he : Valid n e) (hf : Valid m f) : Ct Tryd.prog 26 [Fr2 n e, Fr2 m f] h (fun _ v => v = Two (btw (val n e) (val m f))) := by
  refine ct26 ?_
  intro w0
  unfold s26
  (repeat (first | refine G.add (by omega) ?_ | refine G.sub (by omega) ?_ | refine G.mul (by omega) ?_ | refine G.neg (by omega) ?_ | refine G.quo (by omega) (by omega) ?_ | refine G.rem (by omega) ?_ | refine G.shr (by omega) ?_ | refine G.conv (by omega) ?_ | refine G.step ?_ | refine G.buildA (by rfl) ?_ | (refine Gs.box ?_; intro _) | (refine Gs.alloc ?_; intro _) | refine Gs.store ?_ | refine G.retc ?_ | refine Gs.dr ?_ | refine G.qadd (by omega) ?_ | refine G.qsub (by omega) ?_ | refine G.qmul (by omega) ?_ | refine G.qkp ?_ | refine Gs.qkb ?_ | refine G.withT ?_ | refine Gs.withb ?_ | refine G.ift ?_ | refine G.iff ?_ | refine G.gdtt ?_ | refine G.gdff ?_ | refine G.gdtf ?_ | refine G.gdft ?_ | (refine G.jk ?_; intro _)))
  refine Gs.callv0 (between_ok n e m f h he hf) ?_
  (repeat (first | refine G.add (by omega) ?_ | refine G.sub (by omega) ?_ | refine G.mul (by omega) ?_ | refine G.neg (by omega) ?_ | refine G.quo (by omega) (by omega) ?_ | refine G.rem (by omega) ?_ | refine G.shr (by omega) ?_ | refine G.conv (by omega) ?_ | refine G.step ?_ | refine G.buildA (by rfl) ?_ | (refine Gs.box ?_; intro _) | (refine Gs.alloc ?_; intro _) | refine Gs.store ?_ | refine G.retc ?_ | refine Gs.dr ?_ | refine G.qadd (by omega) ?_ | refine G.qsub (by omega) ?_ | refine G.qmul (by omega) ?_ | refine G.qkp ?_ | refine Gs.qkb ?_ | refine G.withT ?_ | refine Gs.withb ?_ | refine G.ift ?_ | refine G.iff ?_ | refine G.gdtt ?_ | refine G.gdff ?_ | refine G.gdtf ?_ | refine G.gdft ?_ | (refine G.jk ?_; intro _)))
  exact Gs.ret rfl
end Go.Proofs.YtcapijkioaocmaaDoor
end

section
set_option linter.unusedVariables false
set_option maxHeartbeats 4000000
namespace Go.Proofs.YtcapijkioaocmaaDoor
open Go Go.Sk Go.Dy
attribute [local irreducible] flP rflP oddP near
def bst (l u : Int) (x : Nat) (s : Bool × Int) (c : Int) : Bool × Int :=
  if l ≤ c ∧ c ≤ u ∧ validB c x = true ∧ (s.1 = false ∨ max c (-c) < max s.2 (-s.2)) then (true, c) else s
def cand (l u : Int) (k : Nat) : Int := if k = 0 then 0 else if k = 1 then l else u
def bs (l u : Int) (x : Nat) : Nat → Bool × Int
  | 0 => (false, 0)
  | k + 1 => bst l u x (bs l u x k) (cand l u k)
theorem bs_end (l u : Int) (x : Nat) (hle : l ≤ u) (hl : -1099511627776 ≤ l) (hu : u ≤ 1099511627776) (hx : x ≤ 30) (ho : x = 0 ∨ (l = u ∧ l % 2 = 1)) : bs l u x 3 = (true, near l u) := by
  have h1 : near l u = if 0 < l then l else if u < 0 then u else 0 := by unfold near; rfl
  have v1 : ∀ c, l ≤ c → c ≤ u → (validB c x = true ↔ (x = 0 ∨ c % 2 = 1)) := by
    intro c h1 h2
    rw [validB_iff]; unfold Valid; omega
  show bst l u x (bst l u x (bst l u x (false, 0) 0) l) u = _
  rw [h1]
  have vl := v1 l (by omega) hle
  have vu := v1 u hle (by omega)
  by_cases h0 : l ≤ 0 ∧ 0 ≤ u
  · have v0 := v1 0 h0.1 h0.2
    rcases ho with ho | ho
    · have s1 : bst l u x (false, 0) 0 = (true, 0) := by unfold bst; rw [if_pos ⟨h0.1, h0.2, v0.2 (.inl ho), .inl rfl⟩]
      have s2 : bst l u x (true, 0) l = (true, 0) := by unfold bst; rw [if_neg]; rintro ⟨_, _, _, h | h⟩; cases h; dsimp only at h; omega
      have s3 : bst l u x (true, 0) u = (true, 0) := by unfold bst; rw [if_neg]; rintro ⟨_, _, _, h | h⟩; cases h; dsimp only at h; omega
      rw [s1, s2, s3, if_neg (by omega), if_neg (by omega)]
    · omega
  · have s1 : bst l u x (false, 0) 0 = (false, 0) := by unfold bst; rw [if_neg]; rintro ⟨h3, h4, _⟩; exact h0 ⟨h3, h4⟩
    have s2 : bst l u x (false, 0) l = (true, l) := by unfold bst; rw [if_pos ⟨by omega, hle, vl.2 (by omega), .inl rfl⟩]
    rw [s1, s2]
    have e : max l (-l) = if 0 < l then l else -l := by omega
    unfold bst
    split
    · rename_i h3
      obtain ⟨_, _, _, h3 | h3⟩ := h3
      · cases h3
      · dsimp only at h3
        refine congrArg (Prod.mk true) ?_
        omega
    · rename_i h3
      refine congrArg (Prod.mk true) ?_
      by_cases hlu : l = u
      · omega
      · have : ¬ (max u (-u) < max l (-l)) := fun h => h3 ⟨hle, by omega, vu.2 (by omega), .inr h⟩
        omega
theorem bs_bd (l u : Int) (x : Nat) (hle : l ≤ u) (hl : -1099511627776 ≤ l) (hu : u ≤ 1099511627776) : ∀ k, -1099511627776 ≤ (bs l u x k).2 ∧ (bs l u x k).2 ≤ 1099511627776
  | 0 => ⟨by show (-1099511627776 : Int) ≤ 0; decide, by show (0 : Int) ≤ 1099511627776; decide⟩
  | k + 1 => by
    have ih := bs_bd l u x hle hl hu k
    show -1099511627776 ≤ (bst l u x (bs l u x k) (cand l u k)).2 ∧ (bst l u x (bs l u x k) (cand l u k)).2 ≤ 1099511627776
    unfold bst
    split
    · rename_i h; exact ⟨by dsimp only; omega, by dsimp only; omega⟩
    · exact ih
attribute [irreducible] bst cand
theorem Between_ok (n : Int) (e : Nat) (m : Int) (f : Nat) (h : Hp) (he : Valid n e) (hf : Valid m f) : Ct Tryd.prog 25 [Fr2 n e, Fr2 m f] h (fun _ v => v = Two (btw (val n e) (val m f))) := by
  obtain ⟨he, hn, hn', _⟩ := he
  obtain ⟨hf, hm, hm', _⟩ := hf
  refine ct25 ?_
  intro w0
  unfold s25
  (repeat (first | refine G.add (by omega) ?_ | refine G.sub (by omega) ?_ | refine G.mul (by omega) ?_ | refine G.neg (by omega) ?_ | refine G.quo (by omega) (by omega) ?_ | refine G.rem (by omega) ?_ | refine G.shr (by omega) ?_ | refine G.conv (by omega) ?_ | refine G.step ?_ | refine G.buildA (by rfl) ?_ | (refine Gs.box ?_; intro _) | (refine Gs.alloc ?_; intro _) | refine Gs.store ?_ | refine G.retc ?_ | refine Gs.dr ?_ | refine G.qadd (by omega) ?_ | refine G.qsub (by omega) ?_ | refine G.qmul (by omega) ?_ | refine G.qkp ?_ | refine Gs.qkb ?_ | refine G.withT ?_ | refine Gs.withb ?_ | refine G.ift ?_ | refine G.iff ?_ | refine G.gdtt ?_ | refine G.gdff ?_ | refine G.gdtf ?_ | refine G.gdft ?_ | (refine G.jk ?_; intro _)))
  rename_i b1 b2 b3 b4
  have hb0 : btwF (val n e) (val m f) 31 0 = btw (val n e) (val m f) := rfl
  generalize btw (val n e) (val m f) = R at *
  refine G.jn ?_
  refine Gs.lp (β := Nat) (fun x => (.bool false, I x)) (fun _ => h) (fun _ => _) (fun x => btwF (val n e) (val m f) (31 - x) x = R ∧ x ≤ 31 ∧ ∀ y, x = y + 1 → highX (val m f) y < lowX (val n e) y) (fun x => 31 - x) 0 rfl ⟨hb0, by omega, by omega⟩ (fun _ h => h) ?_
  rintro x ⟨hR, hx, hy⟩ cont hc
  (repeat (first | refine G.add (by omega) ?_ | refine G.sub (by omega) ?_ | refine G.mul (by omega) ?_ | refine G.neg (by omega) ?_ | refine G.quo (by omega) (by omega) ?_ | refine G.rem (by omega) ?_ | refine G.shr (by omega) ?_ | refine G.conv (by omega) ?_ | refine G.step ?_ | refine G.buildA (by rfl) ?_ | (refine Gs.box ?_; intro _) | (refine Gs.alloc ?_; intro _) | refine Gs.store ?_ | refine G.retc ?_ | refine Gs.dr ?_ | refine G.qadd (by omega) ?_ | refine G.qsub (by omega) ?_ | refine G.qmul (by omega) ?_ | refine G.qkp ?_ | refine Gs.qkb ?_ | refine G.withT ?_ | refine Gs.withb ?_ | refine G.ift ?_ | refine G.iff ?_ | refine G.gdtt ?_ | refine G.gdff ?_ | refine G.gdtf ?_ | refine G.gdft ?_ | (refine G.jk ?_; intro _)))
  refine G.ifd ?_ ?_ <;> intro hx30
  · have hx' : x ≤ 30 := by omega
    have hp := flP_Fl n e x he hx' hn hn'
    have hq := flP_Fl (-m) f x hf hx' (by omega) (by omega)
    rw [val_neg] at hq
    obtain ⟨hle, hval⟩ := Fl.bounds hp hq
    obtain ⟨_, hp1, hp2⟩ := hp
    obtain ⟨_, hq1, hq2⟩ := hq
    rw [show 31 - x = (30 - x) + 1 by omega, btwF_succ] at hR
    have ho : ∀ l u : Int, l = lowX (val n e) x → u = highX (val m f) x → l ≤ u → x = 0 ∨ (l = u ∧ l % 2 = 1) := by
      intro l u h1 h2 h3
      rcases Nat.eq_zero_or_pos x with h4 | h4
      · exact .inl h4
      · right
        obtain ⟨y, rfl⟩ : ∃ y, x = y + 1 := ⟨x - 1, by omega⟩
        obtain ⟨a1, a2⟩ := one_only _ _ y (by omega) (hy y rfl) (by rw [← h1, ← h2]; exact h3)
        rw [← h1, ← h2] at a1
        rw [← h1] at a2
        exact ⟨a1, a2⟩
    have hl0 := lowX_bd (val n e) x
    have hu0 := highX_bd (val m f) x
    refine G.jn ?_
    (repeat (first | refine G.add (by omega) ?_ | refine G.sub (by omega) ?_ | refine G.mul (by omega) ?_ | refine G.neg (by omega) ?_ | refine G.quo (by omega) (by omega) ?_ | refine G.rem (by omega) ?_ | refine G.shr (by omega) ?_ | refine G.conv (by omega) ?_ | refine G.step ?_ | refine G.buildA (by rfl) ?_ | (refine Gs.box ?_; intro _) | (refine Gs.alloc ?_; intro _) | refine Gs.store ?_ | refine G.retc ?_ | refine Gs.dr ?_ | refine G.qadd (by omega) ?_ | refine G.qsub (by omega) ?_ | refine G.qmul (by omega) ?_ | refine G.qkp ?_ | refine Gs.qkb ?_ | refine G.withT ?_ | refine Gs.withb ?_ | refine G.ift ?_ | refine G.iff ?_ | refine G.gdtt ?_ | refine G.gdff ?_ | refine G.gdtf ?_ | refine G.gdft ?_ | (refine G.jk ?_; intro _)))
    refine Gs.callv0 (floor_ok n e x h he hx') ?_
    (repeat (first | refine G.add (by omega) ?_ | refine G.sub (by omega) ?_ | refine G.mul (by omega) ?_ | refine G.neg (by omega) ?_ | refine G.quo (by omega) (by omega) ?_ | refine G.rem (by omega) ?_ | refine G.shr (by omega) ?_ | refine G.conv (by omega) ?_ | refine G.step ?_ | refine G.buildA (by rfl) ?_ | (refine Gs.box ?_; intro _) | (refine Gs.alloc ?_; intro _) | refine Gs.store ?_ | refine G.retc ?_ | refine Gs.dr ?_ | refine G.qadd (by omega) ?_ | refine G.qsub (by omega) ?_ | refine G.qmul (by omega) ?_ | refine G.qkp ?_ | refine Gs.qkb ?_ | refine G.withT ?_ | refine Gs.withb ?_ | refine G.ift ?_ | refine G.iff ?_ | refine G.gdtt ?_ | refine G.gdff ?_ | refine G.gdtf ?_ | refine G.gdft ?_ | (refine G.jk ?_; intro _)))
    refine Gs.callv0 (neg_ok m f h (by omega) (by omega)) ?_
    refine Gs.callv0 (floor_ok (-m) f x h hf hx') ?_
    generalize flP n e x = p at *
    generalize flP (-m) f x = q at *
    (repeat (first | refine G.add (by omega) ?_ | refine G.sub (by omega) ?_ | refine G.mul (by omega) ?_ | refine G.neg (by omega) ?_ | refine G.quo (by omega) (by omega) ?_ | refine G.rem (by omega) ?_ | refine G.shr (by omega) ?_ | refine G.conv (by omega) ?_ | refine G.step ?_ | refine G.buildA (by rfl) ?_ | (refine Gs.box ?_; intro _) | (refine Gs.alloc ?_; intro _) | refine Gs.store ?_ | refine G.retc ?_ | refine Gs.dr ?_ | refine G.qadd (by omega) ?_ | refine G.qsub (by omega) ?_ | refine G.qmul (by omega) ?_ | refine G.qkp ?_ | refine Gs.qkb ?_ | refine G.withT ?_ | refine Gs.withb ?_ | refine G.ift ?_ | refine G.iff ?_ | refine G.gdtt ?_ | refine G.gdff ?_ | refine G.gdtf ?_ | refine G.gdft ?_ | (refine G.jk ?_; intro _)))
    generalize max (p + 1) (-1099511627776) = l at *
    generalize min (-q - 1) 1099511627776 = u at *
    refine G.ifd ?_ ?_ <;> intro hul
    · rw [if_neg (by omega)] at hR
      (repeat (first | refine G.add (by omega) ?_ | refine G.sub (by omega) ?_ | refine G.mul (by omega) ?_ | refine G.neg (by omega) ?_ | refine G.quo (by omega) (by omega) ?_ | refine G.rem (by omega) ?_ | refine G.shr (by omega) ?_ | refine G.conv (by omega) ?_ | refine G.step ?_ | refine G.buildA (by rfl) ?_ | (refine Gs.box ?_; intro _) | (refine Gs.alloc ?_; intro _) | refine Gs.store ?_ | refine G.retc ?_ | refine Gs.dr ?_ | refine G.qadd (by omega) ?_ | refine G.qsub (by omega) ?_ | refine G.qmul (by omega) ?_ | refine G.qkp ?_ | refine Gs.qkb ?_ | refine G.withT ?_ | refine Gs.withb ?_ | refine G.ift ?_ | refine G.iff ?_ | refine G.gdtt ?_ | refine G.gdff ?_ | refine G.gdtf ?_ | refine G.gdft ?_ | (refine G.jk ?_; intro _)))
      exact Gs.go (hc (x + 1) ⟨by rw [show 31 - (x + 1) = 30 - x by omega]; exact hR, by omega, fun y hy' => by
        have : x = y := by omega
        subst this
        omega⟩ (by omega)) rfl
    · have hlu : lowX (val n e) x ≤ highX (val m f) x := hle.1 (by omega)
      obtain ⟨e1, e2⟩ := hval hlu
      rw [if_pos hlu, ← e1, ← e2] at hR
      have ho := ho l u e1 e2 (by omega)
      rw [← e1] at hl0
      rw [← e2] at hu0
      have hend := bs_end l u x (by omega) hl0 hu0 hx' ho
      clear hval hle hlu e1 e2 hy hc
      (repeat (first | refine G.add (by omega) ?_ | refine G.sub (by omega) ?_ | refine G.mul (by omega) ?_ | refine G.neg (by omega) ?_ | refine G.quo (by omega) (by omega) ?_ | refine G.rem (by omega) ?_ | refine G.shr (by omega) ?_ | refine G.conv (by omega) ?_ | refine G.step ?_ | refine G.buildA (by rfl) ?_ | (refine Gs.box ?_; intro _) | (refine Gs.alloc ?_; intro _) | refine Gs.store ?_ | refine G.retc ?_ | refine Gs.dr ?_ | refine G.qadd (by omega) ?_ | refine G.qsub (by omega) ?_ | refine G.qmul (by omega) ?_ | refine G.qkp ?_ | refine Gs.qkb ?_ | refine G.withT ?_ | refine Gs.withb ?_ | refine G.ift ?_ | refine G.iff ?_ | refine G.gdtt ?_ | refine G.gdff ?_ | refine G.gdtf ?_ | refine G.gdft ?_ | (refine G.jk ?_; intro _)))
      refine Gs.lp (β := Nat) (fun k => (.bool (bs l u x k).1, I k)) (fun _ => h) (fun k => [.blk b4 [I (bs l u x k).2, I (if (bs l u x k).1 then x else 0)] 27, .blk b3 [.int .i64 0, .int .i64 0] 27, .blk b2 [I m, I f] 27, .blk b1 [I n, I e] 27]) (fun k => k ≤ 3) (fun k => 3 - k) 0 rfl (by decide) (fun _ h => h) ?_
      intro k hk cont2 hc2
      have hstep : bs l u x (k + 1) = bst l u x (bs l u x k) (cand l u k) := rfl
      have hc3 := hc2 (k + 1)
      rw [hstep] at hc3
      clear hc2
      (repeat (first | refine G.add (by omega) ?_ | refine G.sub (by omega) ?_ | refine G.mul (by omega) ?_ | refine G.neg (by omega) ?_ | refine G.quo (by omega) (by omega) ?_ | refine G.rem (by omega) ?_ | refine G.shr (by omega) ?_ | refine G.conv (by omega) ?_ | refine G.step ?_ | refine G.buildA (by rfl) ?_ | (refine Gs.box ?_; intro _) | (refine Gs.alloc ?_; intro _) | refine Gs.store ?_ | refine G.retc ?_ | refine Gs.dr ?_ | refine G.qadd (by omega) ?_ | refine G.qsub (by omega) ?_ | refine G.qmul (by omega) ?_ | refine G.qkp ?_ | refine Gs.qkb ?_ | refine G.withT ?_ | refine Gs.withb ?_ | refine G.ift ?_ | refine G.iff ?_ | refine G.gdtt ?_ | refine G.gdff ?_ | refine G.gdtf ?_ | refine G.gdft ?_ | (refine G.jk ?_; intro _)))
      refine G.ifd ?_ ?_ <;> intro hk3
      · have hcand : [Value.int .i64 0, I l, I u][(k : Int).toNat * 1]? = some (I (cand l u k)) := by
          rw [Int.toNat_natCast, Nat.mul_one]
          unfold cand
          obtain rfl | rfl | rfl : k = 0 ∨ k = 1 ∨ k = 2 := by omega
          all_goals rfl
        have hcb : -1099511627776 ≤ cand l u k ∧ cand l u k ≤ 1099511627776 := by
          unfold cand
          omega
        have hob := bs_bd l u x (by omega) hl0 hu0 k
        generalize cand l u k = c at *
        generalize bs l u x k = s at *
        obtain ⟨fd, on⟩ := s
        dsimp only at *
        refine G.jn ?_
        refine G.indexV1 ⟨by omega, by omega⟩ hcand ?_
        clear hcand hstep
        have hneg : ∀ fd : Bool, ¬ (l ≤ c ∧ c ≤ u ∧ validB c x = true ∧ (fd = false ∨ max c (-c) < max on (-on))) → bst l u x (fd, on) c = (fd, on) := by
          intro fd hn; unfold bst; exact if_neg hn
        have hpos : ∀ fd : Bool, (l ≤ c ∧ c ≤ u ∧ validB c x = true ∧ (fd = false ∨ max c (-c) < max on (-on))) → bst l u x (fd, on) c = (true, c) := by
          intro fd hn; unfold bst; exact if_pos hn
        cases fd
        · ((repeat (first | refine G.add (by omega) ?_ | refine G.sub (by omega) ?_ | refine G.mul (by omega) ?_ | refine G.neg (by omega) ?_ | refine G.quo (by omega) (by omega) ?_ | refine G.rem (by omega) ?_ | refine G.shr (by omega) ?_ | refine G.conv (by omega) ?_ | refine G.step ?_ | refine G.buildA (by rfl) ?_ | (refine Gs.box ?_; intro _) | (refine Gs.alloc ?_; intro _) | refine Gs.store ?_ | refine G.retc ?_ | refine Gs.dr ?_ | refine G.qadd (by omega) ?_ | refine G.qsub (by omega) ?_ | refine G.qmul (by omega) ?_ | refine G.qkp ?_ | refine Gs.qkb ?_ | refine G.withT ?_ | refine Gs.withb ?_ | refine G.ift ?_ | refine G.iff ?_ | refine G.gdtt ?_ | refine G.gdff ?_ | refine G.gdtf ?_ | refine G.gdft ?_ | refine G.jn ?_ | (refine G.jk ?_; intro _))); repeat (any_goals ((first | (refine G.ifd ?_ ?_ <;> intro _) | (refine G.ifb ?_ ?_ <;> intro _) | (refine G.gddt ?_ ?_ <;> intro _) | (refine G.gddf ?_ ?_ <;> intro _) | (refine G.gdbt ?_ ?_ <;> intro _) | (refine G.gdbf ?_ ?_ <;> intro _)) <;> (try (exfalso; omega; done)) <;> (repeat (first | refine G.add (by omega) ?_ | refine G.sub (by omega) ?_ | refine G.mul (by omega) ?_ | refine G.neg (by omega) ?_ | refine G.quo (by omega) (by omega) ?_ | refine G.rem (by omega) ?_ | refine G.shr (by omega) ?_ | refine G.conv (by omega) ?_ | refine G.step ?_ | refine G.buildA (by rfl) ?_ | (refine Gs.box ?_; intro _) | (refine Gs.alloc ?_; intro _) | refine Gs.store ?_ | refine G.retc ?_ | refine Gs.dr ?_ | refine G.qadd (by omega) ?_ | refine G.qsub (by omega) ?_ | refine G.qmul (by omega) ?_ | refine G.qkp ?_ | refine Gs.qkb ?_ | refine G.withT ?_ | refine Gs.withb ?_ | refine G.ift ?_ | refine G.iff ?_ | refine G.gdtt ?_ | refine G.gdff ?_ | refine G.gdtf ?_ | refine G.gdft ?_ | refine G.jn ?_ | (refine G.jk ?_; intro _))))))
          all_goals first
            | (rw [hneg false (by rintro ⟨h1, h2, _⟩; omega)] at hc3
               exact Gs.goS (hc3 (by omega) (by omega)) rfl)
            | refine Gs.callv0 (valid_ok c x h) ?_
          cases hv : validB c x
          · ((repeat (first | refine G.add (by omega) ?_ | refine G.sub (by omega) ?_ | refine G.mul (by omega) ?_ | refine G.neg (by omega) ?_ | refine G.quo (by omega) (by omega) ?_ | refine G.rem (by omega) ?_ | refine G.shr (by omega) ?_ | refine G.conv (by omega) ?_ | refine G.step ?_ | refine G.buildA (by rfl) ?_ | (refine Gs.box ?_; intro _) | (refine Gs.alloc ?_; intro _) | refine Gs.store ?_ | refine G.retc ?_ | refine Gs.dr ?_ | refine G.qadd (by omega) ?_ | refine G.qsub (by omega) ?_ | refine G.qmul (by omega) ?_ | refine G.qkp ?_ | refine Gs.qkb ?_ | refine G.withT ?_ | refine Gs.withb ?_ | refine G.ift ?_ | refine G.iff ?_ | refine G.gdtt ?_ | refine G.gdff ?_ | refine G.gdtf ?_ | refine G.gdft ?_ | refine G.jn ?_ | (refine G.jk ?_; intro _))); repeat (any_goals ((first | (refine G.ifd ?_ ?_ <;> intro _) | (refine G.ifb ?_ ?_ <;> intro _) | (refine G.gddt ?_ ?_ <;> intro _) | (refine G.gddf ?_ ?_ <;> intro _) | (refine G.gdbt ?_ ?_ <;> intro _) | (refine G.gdbf ?_ ?_ <;> intro _)) <;> (try (exfalso; omega; done)) <;> (repeat (first | refine G.add (by omega) ?_ | refine G.sub (by omega) ?_ | refine G.mul (by omega) ?_ | refine G.neg (by omega) ?_ | refine G.quo (by omega) (by omega) ?_ | refine G.rem (by omega) ?_ | refine G.shr (by omega) ?_ | refine G.conv (by omega) ?_ | refine G.step ?_ | refine G.buildA (by rfl) ?_ | (refine Gs.box ?_; intro _) | (refine Gs.alloc ?_; intro _) | refine Gs.store ?_ | refine G.retc ?_ | refine Gs.dr ?_ | refine G.qadd (by omega) ?_ | refine G.qsub (by omega) ?_ | refine G.qmul (by omega) ?_ | refine G.qkp ?_ | refine Gs.qkb ?_ | refine G.withT ?_ | refine Gs.withb ?_ | refine G.ift ?_ | refine G.iff ?_ | refine G.gdtt ?_ | refine G.gdff ?_ | refine G.gdtf ?_ | refine G.gdft ?_ | refine G.jn ?_ | (refine G.jk ?_; intro _))))))
            rw [hneg false (by rw [hv]; rintro ⟨_, _, h3, _⟩; cases h3)] at hc3
            exact Gs.goS (hc3 (by omega) (by omega)) rfl
          · ((repeat (first | refine G.add (by omega) ?_ | refine G.sub (by omega) ?_ | refine G.mul (by omega) ?_ | refine G.neg (by omega) ?_ | refine G.quo (by omega) (by omega) ?_ | refine G.rem (by omega) ?_ | refine G.shr (by omega) ?_ | refine G.conv (by omega) ?_ | refine G.step ?_ | refine G.buildA (by rfl) ?_ | (refine Gs.box ?_; intro _) | (refine Gs.alloc ?_; intro _) | refine Gs.store ?_ | refine G.retc ?_ | refine Gs.dr ?_ | refine G.qadd (by omega) ?_ | refine G.qsub (by omega) ?_ | refine G.qmul (by omega) ?_ | refine G.qkp ?_ | refine Gs.qkb ?_ | refine G.withT ?_ | refine Gs.withb ?_ | refine G.ift ?_ | refine G.iff ?_ | refine G.gdtt ?_ | refine G.gdff ?_ | refine G.gdtf ?_ | refine G.gdft ?_ | refine G.jn ?_ | (refine G.jk ?_; intro _))); repeat (any_goals ((first | (refine G.ifd ?_ ?_ <;> intro _) | (refine G.ifb ?_ ?_ <;> intro _) | (refine G.gddt ?_ ?_ <;> intro _) | (refine G.gddf ?_ ?_ <;> intro _) | (refine G.gdbt ?_ ?_ <;> intro _) | (refine G.gdbf ?_ ?_ <;> intro _)) <;> (try (exfalso; omega; done)) <;> (repeat (first | refine G.add (by omega) ?_ | refine G.sub (by omega) ?_ | refine G.mul (by omega) ?_ | refine G.neg (by omega) ?_ | refine G.quo (by omega) (by omega) ?_ | refine G.rem (by omega) ?_ | refine G.shr (by omega) ?_ | refine G.conv (by omega) ?_ | refine G.step ?_ | refine G.buildA (by rfl) ?_ | (refine Gs.box ?_; intro _) | (refine Gs.alloc ?_; intro _) | refine Gs.store ?_ | refine G.retc ?_ | refine Gs.dr ?_ | refine G.qadd (by omega) ?_ | refine G.qsub (by omega) ?_ | refine G.qmul (by omega) ?_ | refine G.qkp ?_ | refine Gs.qkb ?_ | refine G.withT ?_ | refine Gs.withb ?_ | refine G.ift ?_ | refine G.iff ?_ | refine G.gdtt ?_ | refine G.gdff ?_ | refine G.gdtf ?_ | refine G.gdft ?_ | refine G.jn ?_ | (refine G.jk ?_; intro _))))))
            rw [hpos false ⟨by assumption, by assumption, hv, .inl rfl⟩, if_pos rfl] at hc3
            exact Gs.goS (hc3 (by omega) (by omega)) rfl
        · ((repeat (first | refine G.add (by omega) ?_ | refine G.sub (by omega) ?_ | refine G.mul (by omega) ?_ | refine G.neg (by omega) ?_ | refine G.quo (by omega) (by omega) ?_ | refine G.rem (by omega) ?_ | refine G.shr (by omega) ?_ | refine G.conv (by omega) ?_ | refine G.step ?_ | refine G.buildA (by rfl) ?_ | (refine Gs.box ?_; intro _) | (refine Gs.alloc ?_; intro _) | refine Gs.store ?_ | refine G.retc ?_ | refine Gs.dr ?_ | refine G.qadd (by omega) ?_ | refine G.qsub (by omega) ?_ | refine G.qmul (by omega) ?_ | refine G.qkp ?_ | refine Gs.qkb ?_ | refine G.withT ?_ | refine Gs.withb ?_ | refine G.ift ?_ | refine G.iff ?_ | refine G.gdtt ?_ | refine G.gdff ?_ | refine G.gdtf ?_ | refine G.gdft ?_ | refine G.jn ?_ | (refine G.jk ?_; intro _))); repeat (any_goals ((first | (refine G.ifd ?_ ?_ <;> intro _) | (refine G.ifb ?_ ?_ <;> intro _) | (refine G.gddt ?_ ?_ <;> intro _) | (refine G.gddf ?_ ?_ <;> intro _) | (refine G.gdbt ?_ ?_ <;> intro _) | (refine G.gdbf ?_ ?_ <;> intro _)) <;> (try (exfalso; omega; done)) <;> (repeat (first | refine G.add (by omega) ?_ | refine G.sub (by omega) ?_ | refine G.mul (by omega) ?_ | refine G.neg (by omega) ?_ | refine G.quo (by omega) (by omega) ?_ | refine G.rem (by omega) ?_ | refine G.shr (by omega) ?_ | refine G.conv (by omega) ?_ | refine G.step ?_ | refine G.buildA (by rfl) ?_ | (refine Gs.box ?_; intro _) | (refine Gs.alloc ?_; intro _) | refine Gs.store ?_ | refine G.retc ?_ | refine Gs.dr ?_ | refine G.qadd (by omega) ?_ | refine G.qsub (by omega) ?_ | refine G.qmul (by omega) ?_ | refine G.qkp ?_ | refine Gs.qkb ?_ | refine G.withT ?_ | refine Gs.withb ?_ | refine G.ift ?_ | refine G.iff ?_ | refine G.gdtt ?_ | refine G.gdff ?_ | refine G.gdtf ?_ | refine G.gdft ?_ | refine G.jn ?_ | (refine G.jk ?_; intro _))))))
          all_goals first
            | (rw [hneg true (by rintro ⟨h1, h2, _⟩; omega)] at hc3
               exact Gs.goS (hc3 (by omega) (by omega)) rfl)
            | refine Gs.callv0 (valid_ok c x h) ?_
          cases hv : validB c x
          · ((repeat (first | refine G.add (by omega) ?_ | refine G.sub (by omega) ?_ | refine G.mul (by omega) ?_ | refine G.neg (by omega) ?_ | refine G.quo (by omega) (by omega) ?_ | refine G.rem (by omega) ?_ | refine G.shr (by omega) ?_ | refine G.conv (by omega) ?_ | refine G.step ?_ | refine G.buildA (by rfl) ?_ | (refine Gs.box ?_; intro _) | (refine Gs.alloc ?_; intro _) | refine Gs.store ?_ | refine G.retc ?_ | refine Gs.dr ?_ | refine G.qadd (by omega) ?_ | refine G.qsub (by omega) ?_ | refine G.qmul (by omega) ?_ | refine G.qkp ?_ | refine Gs.qkb ?_ | refine G.withT ?_ | refine Gs.withb ?_ | refine G.ift ?_ | refine G.iff ?_ | refine G.gdtt ?_ | refine G.gdff ?_ | refine G.gdtf ?_ | refine G.gdft ?_ | refine G.jn ?_ | (refine G.jk ?_; intro _))); repeat (any_goals ((first | (refine G.ifd ?_ ?_ <;> intro _) | (refine G.ifb ?_ ?_ <;> intro _) | (refine G.gddt ?_ ?_ <;> intro _) | (refine G.gddf ?_ ?_ <;> intro _) | (refine G.gdbt ?_ ?_ <;> intro _) | (refine G.gdbf ?_ ?_ <;> intro _)) <;> (try (exfalso; omega; done)) <;> (repeat (first | refine G.add (by omega) ?_ | refine G.sub (by omega) ?_ | refine G.mul (by omega) ?_ | refine G.neg (by omega) ?_ | refine G.quo (by omega) (by omega) ?_ | refine G.rem (by omega) ?_ | refine G.shr (by omega) ?_ | refine G.conv (by omega) ?_ | refine G.step ?_ | refine G.buildA (by rfl) ?_ | (refine Gs.box ?_; intro _) | (refine Gs.alloc ?_; intro _) | refine Gs.store ?_ | refine G.retc ?_ | refine Gs.dr ?_ | refine G.qadd (by omega) ?_ | refine G.qsub (by omega) ?_ | refine G.qmul (by omega) ?_ | refine G.qkp ?_ | refine Gs.qkb ?_ | refine G.withT ?_ | refine Gs.withb ?_ | refine G.ift ?_ | refine G.iff ?_ | refine G.gdtt ?_ | refine G.gdff ?_ | refine G.gdtf ?_ | refine G.gdft ?_ | refine G.jn ?_ | (refine G.jk ?_; intro _))))))
            rw [hneg true (by rw [hv]; rintro ⟨_, _, h3, _⟩; cases h3)] at hc3
            exact Gs.goS (hc3 (by omega) (by omega)) rfl
          · ((repeat (first | refine G.add (by omega) ?_ | refine G.sub (by omega) ?_ | refine G.mul (by omega) ?_ | refine G.neg (by omega) ?_ | refine G.quo (by omega) (by omega) ?_ | refine G.rem (by omega) ?_ | refine G.shr (by omega) ?_ | refine G.conv (by omega) ?_ | refine G.step ?_ | refine G.buildA (by rfl) ?_ | (refine Gs.box ?_; intro _) | (refine Gs.alloc ?_; intro _) | refine Gs.store ?_ | refine G.retc ?_ | refine Gs.dr ?_ | refine G.qadd (by omega) ?_ | refine G.qsub (by omega) ?_ | refine G.qmul (by omega) ?_ | refine G.qkp ?_ | refine Gs.qkb ?_ | refine G.withT ?_ | refine Gs.withb ?_ | refine G.ift ?_ | refine G.iff ?_ | refine G.gdtt ?_ | refine G.gdff ?_ | refine G.gdtf ?_ | refine G.gdft ?_ | refine G.jn ?_ | (refine G.jk ?_; intro _))); repeat (any_goals ((first | (refine G.ifd ?_ ?_ <;> intro _) | (refine G.ifb ?_ ?_ <;> intro _) | (refine G.gddt ?_ ?_ <;> intro _) | (refine G.gddf ?_ ?_ <;> intro _) | (refine G.gdbt ?_ ?_ <;> intro _) | (refine G.gdbf ?_ ?_ <;> intro _)) <;> (try (exfalso; omega; done)) <;> (repeat (first | refine G.add (by omega) ?_ | refine G.sub (by omega) ?_ | refine G.mul (by omega) ?_ | refine G.neg (by omega) ?_ | refine G.quo (by omega) (by omega) ?_ | refine G.rem (by omega) ?_ | refine G.shr (by omega) ?_ | refine G.conv (by omega) ?_ | refine G.step ?_ | refine G.buildA (by rfl) ?_ | (refine Gs.box ?_; intro _) | (refine Gs.alloc ?_; intro _) | refine Gs.store ?_ | refine G.retc ?_ | refine Gs.dr ?_ | refine G.qadd (by omega) ?_ | refine G.qsub (by omega) ?_ | refine G.qmul (by omega) ?_ | refine G.qkp ?_ | refine Gs.qkb ?_ | refine G.withT ?_ | refine Gs.withb ?_ | refine G.ift ?_ | refine G.iff ?_ | refine G.gdtt ?_ | refine G.gdff ?_ | refine G.gdtf ?_ | refine G.gdft ?_ | refine G.jn ?_ | (refine G.jk ?_; intro _))))))
            refine Gs.callv0 (abs_ok c h (by omega) (by omega)) ?_
            ((repeat (first | refine G.add (by omega) ?_ | refine G.sub (by omega) ?_ | refine G.mul (by omega) ?_ | refine G.neg (by omega) ?_ | refine G.quo (by omega) (by omega) ?_ | refine G.rem (by omega) ?_ | refine G.shr (by omega) ?_ | refine G.conv (by omega) ?_ | refine G.step ?_ | refine G.buildA (by rfl) ?_ | (refine Gs.box ?_; intro _) | (refine Gs.alloc ?_; intro _) | refine Gs.store ?_ | refine G.retc ?_ | refine Gs.dr ?_ | refine G.qadd (by omega) ?_ | refine G.qsub (by omega) ?_ | refine G.qmul (by omega) ?_ | refine G.qkp ?_ | refine Gs.qkb ?_ | refine G.withT ?_ | refine Gs.withb ?_ | refine G.ift ?_ | refine G.iff ?_ | refine G.gdtt ?_ | refine G.gdff ?_ | refine G.gdtf ?_ | refine G.gdft ?_ | refine G.jn ?_ | (refine G.jk ?_; intro _))); repeat (any_goals ((first | (refine G.ifd ?_ ?_ <;> intro _) | (refine G.ifb ?_ ?_ <;> intro _) | (refine G.gddt ?_ ?_ <;> intro _) | (refine G.gddf ?_ ?_ <;> intro _) | (refine G.gdbt ?_ ?_ <;> intro _) | (refine G.gdbf ?_ ?_ <;> intro _)) <;> (try (exfalso; omega; done)) <;> (repeat (first | refine G.add (by omega) ?_ | refine G.sub (by omega) ?_ | refine G.mul (by omega) ?_ | refine G.neg (by omega) ?_ | refine G.quo (by omega) (by omega) ?_ | refine G.rem (by omega) ?_ | refine G.shr (by omega) ?_ | refine G.conv (by omega) ?_ | refine G.step ?_ | refine G.buildA (by rfl) ?_ | (refine Gs.box ?_; intro _) | (refine Gs.alloc ?_; intro _) | refine Gs.store ?_ | refine G.retc ?_ | refine Gs.dr ?_ | refine G.qadd (by omega) ?_ | refine G.qsub (by omega) ?_ | refine G.qmul (by omega) ?_ | refine G.qkp ?_ | refine Gs.qkb ?_ | refine G.withT ?_ | refine Gs.withb ?_ | refine G.ift ?_ | refine G.iff ?_ | refine G.gdtt ?_ | refine G.gdff ?_ | refine G.gdtf ?_ | refine G.gdft ?_ | refine G.jn ?_ | (refine G.jk ?_; intro _))))))
            refine Gs.callv0 (abs_ok on h (by omega) (by omega)) ?_
            ((repeat (first | refine G.add (by omega) ?_ | refine G.sub (by omega) ?_ | refine G.mul (by omega) ?_ | refine G.neg (by omega) ?_ | refine G.quo (by omega) (by omega) ?_ | refine G.rem (by omega) ?_ | refine G.shr (by omega) ?_ | refine G.conv (by omega) ?_ | refine G.step ?_ | refine G.buildA (by rfl) ?_ | (refine Gs.box ?_; intro _) | (refine Gs.alloc ?_; intro _) | refine Gs.store ?_ | refine G.retc ?_ | refine Gs.dr ?_ | refine G.qadd (by omega) ?_ | refine G.qsub (by omega) ?_ | refine G.qmul (by omega) ?_ | refine G.qkp ?_ | refine Gs.qkb ?_ | refine G.withT ?_ | refine Gs.withb ?_ | refine G.ift ?_ | refine G.iff ?_ | refine G.gdtt ?_ | refine G.gdff ?_ | refine G.gdtf ?_ | refine G.gdft ?_ | refine G.jn ?_ | (refine G.jk ?_; intro _))); repeat (any_goals ((first | (refine G.ifd ?_ ?_ <;> intro _) | (refine G.ifb ?_ ?_ <;> intro _) | (refine G.gddt ?_ ?_ <;> intro _) | (refine G.gddf ?_ ?_ <;> intro _) | (refine G.gdbt ?_ ?_ <;> intro _) | (refine G.gdbf ?_ ?_ <;> intro _)) <;> (try (exfalso; omega; done)) <;> (repeat (first | refine G.add (by omega) ?_ | refine G.sub (by omega) ?_ | refine G.mul (by omega) ?_ | refine G.neg (by omega) ?_ | refine G.quo (by omega) (by omega) ?_ | refine G.rem (by omega) ?_ | refine G.shr (by omega) ?_ | refine G.conv (by omega) ?_ | refine G.step ?_ | refine G.buildA (by rfl) ?_ | (refine Gs.box ?_; intro _) | (refine Gs.alloc ?_; intro _) | refine Gs.store ?_ | refine G.retc ?_ | refine Gs.dr ?_ | refine G.qadd (by omega) ?_ | refine G.qsub (by omega) ?_ | refine G.qmul (by omega) ?_ | refine G.qkp ?_ | refine Gs.qkb ?_ | refine G.withT ?_ | refine Gs.withb ?_ | refine G.ift ?_ | refine G.iff ?_ | refine G.gdtt ?_ | refine G.gdff ?_ | refine G.gdtf ?_ | refine G.gdft ?_ | refine G.jn ?_ | (refine G.jk ?_; intro _))))))
            · rw [hpos true ⟨by assumption, by assumption, hv, .inr (by assumption)⟩, if_pos rfl] at hc3
              exact Gs.goS (hc3 (by omega) (by omega)) rfl
            · rw [hneg true (by rintro ⟨_, _, _, h3 | h3⟩; cases h3; omega)] at hc3
              exact Gs.goS (hc3 (by omega) (by omega)) rfl
      · obtain rfl : k = 3 := by omega
        rw [hend]
        ((repeat (first | refine G.add (by omega) ?_ | refine G.sub (by omega) ?_ | refine G.mul (by omega) ?_ | refine G.neg (by omega) ?_ | refine G.quo (by omega) (by omega) ?_ | refine G.rem (by omega) ?_ | refine G.shr (by omega) ?_ | refine G.conv (by omega) ?_ | refine G.step ?_ | refine G.buildA (by rfl) ?_ | (refine Gs.box ?_; intro _) | (refine Gs.alloc ?_; intro _) | refine Gs.store ?_ | refine G.retc ?_ | refine Gs.dr ?_ | refine G.qadd (by omega) ?_ | refine G.qsub (by omega) ?_ | refine G.qmul (by omega) ?_ | refine G.qkp ?_ | refine Gs.qkb ?_ | refine G.withT ?_ | refine Gs.withb ?_ | refine G.ift ?_ | refine G.iff ?_ | refine G.gdtt ?_ | refine G.gdff ?_ | refine G.gdtf ?_ | refine G.gdft ?_ | refine G.jn ?_ | (refine G.jk ?_; intro _))); repeat (any_goals ((first | (refine G.ifd ?_ ?_ <;> intro _) | (refine G.ifb ?_ ?_ <;> intro _) | (refine G.gddt ?_ ?_ <;> intro _) | (refine G.gddf ?_ ?_ <;> intro _) | (refine G.gdbt ?_ ?_ <;> intro _) | (refine G.gdbf ?_ ?_ <;> intro _)) <;> (try (exfalso; omega; done)) <;> (repeat (first | refine G.add (by omega) ?_ | refine G.sub (by omega) ?_ | refine G.mul (by omega) ?_ | refine G.neg (by omega) ?_ | refine G.quo (by omega) (by omega) ?_ | refine G.rem (by omega) ?_ | refine G.shr (by omega) ?_ | refine G.conv (by omega) ?_ | refine G.step ?_ | refine G.buildA (by rfl) ?_ | (refine Gs.box ?_; intro _) | (refine Gs.alloc ?_; intro _) | refine Gs.store ?_ | refine G.retc ?_ | refine Gs.dr ?_ | refine G.qadd (by omega) ?_ | refine G.qsub (by omega) ?_ | refine G.qmul (by omega) ?_ | refine G.qkp ?_ | refine Gs.qkb ?_ | refine G.withT ?_ | refine Gs.withb ?_ | refine G.ift ?_ | refine G.iff ?_ | refine G.gdtt ?_ | refine G.gdff ?_ | refine G.gdtf ?_ | refine G.gdft ?_ | refine G.jn ?_ | (refine G.jk ?_; intro _))))))
        rw [← hR]
        exact Gs.ret rfl
  · (repeat (first | refine G.add (by omega) ?_ | refine G.sub (by omega) ?_ | refine G.mul (by omega) ?_ | refine G.neg (by omega) ?_ | refine G.quo (by omega) (by omega) ?_ | refine G.rem (by omega) ?_ | refine G.shr (by omega) ?_ | refine G.conv (by omega) ?_ | refine G.step ?_ | refine G.buildA (by rfl) ?_ | (refine Gs.box ?_; intro _) | (refine Gs.alloc ?_; intro _) | refine Gs.store ?_ | refine G.retc ?_ | refine Gs.dr ?_ | refine G.qadd (by omega) ?_ | refine G.qsub (by omega) ?_ | refine G.qmul (by omega) ?_ | refine G.qkp ?_ | refine Gs.qkb ?_ | refine G.withT ?_ | refine Gs.withb ?_ | refine G.ift ?_ | refine G.iff ?_ | refine G.gdtt ?_ | refine G.gdff ?_ | refine G.gdtf ?_ | refine G.gdft ?_ | (refine G.jk ?_; intro _)))
    have : x = 31 := by omega
    subst this
    unfold btwF at hR
    rw [← hR]
    exact Gs.ret rfl
end Go.Proofs.YtcapijkioaocmaaDoor
end

