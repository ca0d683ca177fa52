/-
  Lemmas for the proof of the statement of this claim: a part of the road, no statement of its own. Conditions: those that each lemma names.
-/
import Derived.Test.YtcapijkioaocmaaDoorKc
import Derived.Test.YtcapijkioaocmaaDoorKb
import Derived.Lib.ItoaNum
import Derived.Lib.ItoaLen
import Derived.Test.YtcapijkioaocmaaDoorSh
import Derived.Lib.AtoiAll
import Derived.Lib.AtoiAllCases
import Derived.Lib.IndexMore
import Derived.Lib.IndexBytes
import Derived.Lib.SmallJoins
section
set_option linter.unusedVariables false
set_option maxHeartbeats 4000000
namespace Go.Proofs.YtcapijkioaocmaaDoor
open Go Go.Sk Go.Dy
def andZ (k : IntKind) (a b : Int) : Int := k.wrap ((BitVec.ofInt k.bits a &&& BitVec.ofInt k.bits b).toNat : Int)
theorem G.landZ {P : Program} {S : WP} {K : Value → WP} {t : TypeId} {k : IntKind} {a b : Int} (hb : k.bits = 64) (hk : G S (K (.int k (andZ k a b)))) : G S (Do P (V (binOp .and t (.int k a) (.int k b))) K) :=
  haveI : Yd P S (V (binOp .and t (.int k a) (.int k b))) (.int k (andZ k a b)) := Yd.of fun w => by
    unfold andZ
    simp only [binOp, ne_eq, not_true, if_false, Op.intBits]
    rfl
  G.step hk
theorem G.shrU {P : Program} {S : WP} {K : Value → WP} {t : TypeId} {k yk : IntKind} {a y : Int} (hy : 0 ≤ y ∧ y ≤ 63) (hb : k.bits = 64) (hk : G S (K (.int k (a / 2 ^ y.toNat)))) : G S (Do P (V (binOp .shr t (.int k a) (.int yk y))) K) :=
  haveI := Yd.shrU (P := P) (S := S) (t := t) (k := k) (yk := yk) (a := a) hy hb
  G.step hk
def swar (x : Int) : Int :=
  let u := IntKind.u64
  let a := u.wrap (andZ u (x / 2 ^ (1 : Int).toNat) 6148914691236517205 + andZ u x 6148914691236517205)
  let b := u.wrap (andZ u (a / 2 ^ (2 : Int).toNat) 3689348814741910323 + andZ u a 3689348814741910323)
  let c := andZ u (u.wrap (b / 2 ^ (4 : Int).toNat + b)) 1085102592571150095
  let d := u.wrap (c + c / 2 ^ (8 : Int).toNat)
  let e := u.wrap (d + d / 2 ^ (16 : Int).toNat)
  let f := u.wrap (e + e / 2 ^ (32 : Int).toNat)
  andZ .i64 (IntKind.i64.wrap f) 127
theorem swar_pow : ∀ k : Nat, k ≤ 30 → swar (2 ^ k) = 1 := by decide +kernel
theorem swar_zero : swar 0 ≠ 1 := by decide +kernel
theorem ones64_ok (x : Int) (h : Hp) : Ct Tryd.prog 59 [.int .u64 x] h (fun _ v => v = I (swar x)) := by
  refine ct59 ?_
  intro w0
  unfold s59
  repeat (first | refine G.landZ rfl ?_ | refine G.shrU (by decide) rfl ?_ | refine G.step ?_)
  exact Gs.ret rfl
attribute [irreducible] swar
theorem ones_ok (x : Int) (h : Hp) : Ct Tryd.prog 47 [.int .u64 x] h (fun _ v => v = I (swar x)) := by
  refine ct47 ?_
  intro w0
  unfold s47
  refine G.iff ?_
  refine Gs.callv0 (ones64_ok x h) ?_
  exact Gs.ret rfl
end Go.Proofs.YtcapijkioaocmaaDoor
end

section
set_option linter.unusedVariables false
set_option maxHeartbeats 4000000
namespace Go.Proofs.YtcapijkioaocmaaDoor
open Go Go.Sk Go.Dy
theorem u8w (u : Nat) (h : u < 10) : IntKind.u8.wrap (48 + (u : Int)) = ((UInt8.ofNat (48 + u)).toNat : Int) := by
  have h1 : ((2 : Int) ^ IntKind.u8.bits) = 256 := by decide
  unfold IntKind.wrap
  rw [h1]
  have h2 : IntKind.u8.signed = false := rfl
  simp only [h2, Bool.false_and, Bool.false_eq_true, if_false]
  rw [UInt8.toNat_ofNat']
  omega
theorem dec_len (u : Nat) (hu : u ≤ 9223372036854775807) : (Lib.decDigits u).length ≤ 21 := by
  have := Lib.itoa_length_le (u : Int) (by omega) (by omega)
  rwa [Lib.itoa_nonneg] at this
theorem decn_ok (u : Nat) : ∀ (h : Hp), u ≤ 9223372036854775807 → Ct Tryd.prog 43 [I u] h (fun _ v => v = Str (Lib.decDigits u)) := by
  induction u using Nat.strongRecOn with
  | ind u ih =>
    intro h hu
    refine ct43 ?_
    intro w0
    unfold s43
    refine G.step ?_
    refine G.ifd ?_ ?_ <;> intro h1
    · omega
    refine G.step ?_
    refine G.ifd ?_ ?_ <;> intro h2
    · refine G.add (by omega) ?_
      refine G.step ?_
      rw [u8w u (by omega)]
      refine Gs.buildSlice (by decide) ?_
      intro b
      refine Gs.sbytes (l := [UInt8.ofNat (48 + u)]) rfl ?_
      exact Gs.ret (by rw [Lib.decDigits_one (by omega)])
    have e1 : (u : Int).tdiv 10 = ((u / 10 : Nat) : Int) := by rw [Int.tdiv_eq_ediv_of_nonneg (by omega)]; omega
    have e2 : (u : Int).tmod 10 = ((u % 10 : Nat) : Int) := by rw [Int.tmod_eq_emod_of_nonneg (by omega)]; omega
    have e3 : Lib.decDigits u = Lib.decDigits (u / 10) ++ [UInt8.ofNat (48 + u % 10)] := by
      conv => lhs; rw [Lib.decDigits, dif_neg (by omega)]
    have hlen := dec_len (u / 10) (by omega)
    have ih := ih (u / 10) (by omega) h (by omega)
    rw [e3]
    generalize Lib.decDigits (u / 10) = D at *
    haveI i1 := Yd.quo (P := Tryd.prog) (S := TrueC) (t := 3) (a := (u : Int)) (b := 10) (by decide) ⟨by omega, by omega⟩
    haveI i2 := Yd.rem (P := Tryd.prog) (S := TrueC) (t := 3) (k := .i64) (a := (u : Int)) (b := 10) (by decide)
    refine Gs.dr ?_
    refine G.qkp ?_
    refine G.qkp ?_
    rw [e1, e2]
    refine G.qadd (by omega) ?_
    refine G.qkp ?_
    rw [u8w (u % 10) (by omega)]
    refine G.or2 ?_ ?_
    · refine Gs.callv0 ih ?_
      refine G.withT ?_
      refine G.withT ?_
      refine G.withT ?_
      refine Gs.buildSlice (by decide) ?_
      intro b
      refine G.withT ?_
      refine Gs.sbytes (l := [UInt8.ofNat (48 + u % 10)]) rfl ?_
      refine G.withT ?_
      refine G.qsadd (by simp; omega) ?_
      exact Gs.ret rfl
    · refine Gs.buildSlice (by decide) ?_
      intro b
      refine G.withT ?_
      refine G.or2 ?_ ?_
      · refine Gs.callv0 ih ?_
        refine G.withT ?_
        refine G.withT ?_
        refine G.withT ?_
        refine Gs.sbytes (l := [UInt8.ofNat (48 + u % 10)]) rfl ?_
        refine G.withT ?_
        refine G.qsadd (by simp; omega) ?_
        exact Gs.ret rfl
      · refine Gs.sbytes (l := [UInt8.ofNat (48 + u % 10)]) rfl ?_
        refine G.withT ?_
        refine Gs.callv0 ih ?_
        refine G.withT ?_
        refine G.withT ?_
        refine G.withT ?_
        refine G.qsadd (by simp; omega) ?_
        exact Gs.ret rfl
theorem dec_ok (n : Int) (h : Hp) (h1 : -9223372036854775807 ≤ n) (h2 : n ≤ 9223372036854775807) : Ct Tryd.prog 43 [I n] h (fun _ v => v = Str (Lib.itoa n)) := by
  by_cases hn : 0 ≤ n
  · obtain ⟨u, rfl⟩ := Int.eq_ofNat_of_zero_le hn
    rw [Lib.itoa_nonneg]
    exact decn_ok u h (by omega)
  · obtain ⟨u, hu⟩ := Int.eq_ofNat_of_zero_le (by omega : 0 ≤ -n)
    have e : n = -(u : Int) := by omega
    subst e
    rw [Lib.itoa_neg u (by omega)]
    refine ct43 ?_
    intro w0
    unfold s43
    refine G.step ?_
    refine G.ifd ?_ ?_ <;> intro h3
    · refine G.neg (by omega) ?_
      rw [Int.neg_neg]
      refine Gs.callv0 (decn_ok u h (by omega)) ?_
      have := dec_len u (by omega)
      refine G.sadd (a := [45]) (by simp; omega) ?_
      exact Gs.ret rfl
    · omega
/-- The text of a fraction. -/
def txt (n : Int) (e : Nat) : List UInt8 := if e = 0 then Lib.itoa n else Lib.itoa n ++ [47] ++ Lib.itoa (2 ^ e)
theorem rPrint_ok (n : Int) (e : Nat) (h : Hp) (he : e ≤ 62) (h1 : -9223372036854775807 ≤ n) (h2 : n ≤ 9223372036854775807) : Ct Tryd.prog 28 [Fr2 n e] h (fun _ v => v = Str (txt n e)) := by
  refine ct28 ?_
  intro w0
  unfold s28
  (repeat (first | refine G.add (by omega) ?_ | refine G.sub (by omega) ?_ | refine G.mul (by omega) ?_ | refine G.neg (by omega) ?_ | refine G.quo (by omega) (by omega) ?_ | refine G.rem (by omega) ?_ | refine G.shr (by omega) ?_ | refine G.conv (by omega) ?_ | refine G.step ?_ | refine G.buildA (by rfl) ?_ | (refine Gs.box ?_; intro _) | (refine Gs.alloc ?_; intro _) | refine Gs.store ?_ | refine G.retc ?_ | refine Gs.dr ?_ | refine G.qadd (by omega) ?_ | refine G.qsub (by omega) ?_ | refine G.qmul (by omega) ?_ | refine G.qkp ?_ | refine Gs.qkb ?_ | refine G.withT ?_ | refine Gs.withb ?_ | refine G.ift ?_ | refine G.iff ?_ | refine G.gdtt ?_ | refine G.gdff ?_ | refine G.gdtf ?_ | refine G.gdft ?_ | (refine G.jk ?_; intro _)))
  refine G.ifd ?_ ?_ <;> intro h0
  · (repeat (first | refine G.add (by omega) ?_ | refine G.sub (by omega) ?_ | refine G.mul (by omega) ?_ | refine G.neg (by omega) ?_ | refine G.quo (by omega) (by omega) ?_ | refine G.rem (by omega) ?_ | refine G.shr (by omega) ?_ | refine G.conv (by omega) ?_ | refine G.step ?_ | refine G.buildA (by rfl) ?_ | (refine Gs.box ?_; intro _) | (refine Gs.alloc ?_; intro _) | refine Gs.store ?_ | refine G.retc ?_ | refine Gs.dr ?_ | refine G.qadd (by omega) ?_ | refine G.qsub (by omega) ?_ | refine G.qmul (by omega) ?_ | refine G.qkp ?_ | refine Gs.qkb ?_ | refine G.withT ?_ | refine Gs.withb ?_ | refine G.ift ?_ | refine G.iff ?_ | refine G.gdtt ?_ | refine G.gdff ?_ | refine G.gdtf ?_ | refine G.gdft ?_ | (refine G.jk ?_; intro _)))
    refine Gs.callv0 (dec_ok n h h1 h2) ?_
    exact Gs.ret (by unfold txt; rw [if_pos (by omega)])
  · have hp := two_pow_pos e
    have hb : (2 : Int) ^ e ≤ 4611686018427387904 := by have := two_pow_le he; simpa using this
    have hl1 := Lib.itoa_length_le n (by omega) (by omega)
    have hl2 := Lib.itoa_length_le (2 ^ e) (by omega) (by omega)
    (repeat (first | refine G.add (by omega) ?_ | refine G.sub (by omega) ?_ | refine G.mul (by omega) ?_ | refine G.neg (by omega) ?_ | refine G.quo (by omega) (by omega) ?_ | refine G.rem (by omega) ?_ | refine G.shr (by omega) ?_ | refine G.conv (by omega) ?_ | refine G.step ?_ | refine G.buildA (by rfl) ?_ | (refine Gs.box ?_; intro _) | (refine Gs.alloc ?_; intro _) | refine Gs.store ?_ | refine G.retc ?_ | refine Gs.dr ?_ | refine G.qadd (by omega) ?_ | refine G.qsub (by omega) ?_ | refine G.qmul (by omega) ?_ | refine G.qkp ?_ | refine Gs.qkb ?_ | refine G.withT ?_ | refine Gs.withb ?_ | refine G.ift ?_ | refine G.iff ?_ | refine G.gdtt ?_ | refine G.gdff ?_ | refine G.gdtf ?_ | refine G.gdft ?_ | (refine G.jk ?_; intro _)))
    refine Gs.callv0 (dec_ok n h h1 h2) ?_
    (repeat (first | refine G.add (by omega) ?_ | refine G.sub (by omega) ?_ | refine G.mul (by omega) ?_ | refine G.neg (by omega) ?_ | refine G.quo (by omega) (by omega) ?_ | refine G.rem (by omega) ?_ | refine G.shr (by omega) ?_ | refine G.conv (by omega) ?_ | refine G.step ?_ | refine G.buildA (by rfl) ?_ | (refine Gs.box ?_; intro _) | (refine Gs.alloc ?_; intro _) | refine Gs.store ?_ | refine G.retc ?_ | refine Gs.dr ?_ | refine G.qadd (by omega) ?_ | refine G.qsub (by omega) ?_ | refine G.qmul (by omega) ?_ | refine G.qkp ?_ | refine Gs.qkb ?_ | refine G.withT ?_ | refine Gs.withb ?_ | refine G.ift ?_ | refine G.iff ?_ | refine G.gdtt ?_ | refine G.gdff ?_ | refine G.gdtf ?_ | refine G.gdft ?_ | (refine G.jk ?_; intro _)))
    refine G.qsadd (b := [47]) (by simp; omega) ?_
    refine Gs.callv0 (power_ok e h he) ?_
    (repeat (first | refine G.add (by omega) ?_ | refine G.sub (by omega) ?_ | refine G.mul (by omega) ?_ | refine G.neg (by omega) ?_ | refine G.quo (by omega) (by omega) ?_ | refine G.rem (by omega) ?_ | refine G.shr (by omega) ?_ | refine G.conv (by omega) ?_ | refine G.step ?_ | refine G.buildA (by rfl) ?_ | (refine Gs.box ?_; intro _) | (refine Gs.alloc ?_; intro _) | refine Gs.store ?_ | refine G.retc ?_ | refine Gs.dr ?_ | refine G.qadd (by omega) ?_ | refine G.qsub (by omega) ?_ | refine G.qmul (by omega) ?_ | refine G.qkp ?_ | refine Gs.qkb ?_ | refine G.withT ?_ | refine Gs.withb ?_ | refine G.ift ?_ | refine G.iff ?_ | refine G.gdtt ?_ | refine G.gdff ?_ | refine G.gdtf ?_ | refine G.gdft ?_ | (refine G.jk ?_; intro _)))
    refine Gs.callv0 (dec_ok (2 ^ e) h (by omega) (by omega)) ?_
    (repeat (first | refine G.add (by omega) ?_ | refine G.sub (by omega) ?_ | refine G.mul (by omega) ?_ | refine G.neg (by omega) ?_ | refine G.quo (by omega) (by omega) ?_ | refine G.rem (by omega) ?_ | refine G.shr (by omega) ?_ | refine G.conv (by omega) ?_ | refine G.step ?_ | refine G.buildA (by rfl) ?_ | (refine Gs.box ?_; intro _) | (refine Gs.alloc ?_; intro _) | refine Gs.store ?_ | refine G.retc ?_ | refine Gs.dr ?_ | refine G.qadd (by omega) ?_ | refine G.qsub (by omega) ?_ | refine G.qmul (by omega) ?_ | refine G.qkp ?_ | refine Gs.qkb ?_ | refine G.withT ?_ | refine Gs.withb ?_ | refine G.ift ?_ | refine G.iff ?_ | refine G.gdtt ?_ | refine G.gdff ?_ | refine G.gdtf ?_ | refine G.gdft ?_ | (refine G.jk ?_; intro _)))
    refine G.qsadd (by simp; omega) ?_
    exact Gs.ret (by unfold txt; rw [if_neg (by omega)])
end Go.Proofs.YtcapijkioaocmaaDoor
end

section
set_option linter.unusedVariables false
set_option maxHeartbeats 4000000
namespace Go.Proofs.YtcapijkioaocmaaDoor
open Go Go.Sk Go.Dy
def rdF : List UInt8 → Int → Int
  | [], n => n
  | c :: r, n => if (c.toNat : Int) < 48 ∨ 57 < (c.toNat : Int) then -1 else rdF r (10 * n + ((c.toNat : Int) - 48))
def rdP (l : List UInt8) : Int := if l.length = 0 ∨ 15 < l.length then -1 else rdF l 0
theorem u8sub (c : UInt8) (h : 48 ≤ (c.toNat : Int)) : IntKind.u8.wrap ((c.toNat : Int) - 48) = (c.toNat : Int) - 48 := by
  have h1 : ((2 : Int) ^ IntKind.u8.bits) = 256 := by decide
  have hc := c.toNat_lt
  unfold IntKind.wrap
  rw [h1]
  have h2 : IntKind.u8.signed = false := rfl
  simp only [h2, Bool.false_and, Bool.false_eq_true, if_false]
  omega
theorem read_ok (l : List UInt8) (h : Hp) (hl : l.length ≤ 9223372036854775807) : Ct Tryd.prog 60 [Str l] h (fun _ v => v = I (rdP l)) := by
  refine ct60 ?_
  intro w0
  unfold s60
  (repeat (first | refine G.add (by omega) ?_ | refine G.sub (by omega) ?_ | refine G.mul (by omega) ?_ | refine G.neg (by omega) ?_ | refine G.quo (by omega) (by omega) ?_ | refine G.rem (by omega) ?_ | refine G.shr (by omega) ?_ | refine G.conv (by omega) ?_ | refine G.step ?_ | refine G.buildA (by rfl) ?_ | (refine Gs.box ?_; intro _) | (refine Gs.alloc ?_; intro _) | refine Gs.store ?_ | refine G.retc ?_ | refine Gs.dr ?_ | refine G.qadd (by omega) ?_ | refine G.qsub (by omega) ?_ | refine G.qmul (by omega) ?_ | refine G.qkp ?_ | refine Gs.qkb ?_ | refine G.withT ?_ | refine Gs.withb ?_ | refine G.ift ?_ | refine G.iff ?_ | refine G.gdtt ?_ | refine G.gdff ?_ | refine G.gdtf ?_ | refine G.gdft ?_ | refine G.jn ?_ | (refine G.jk ?_; intro _)))
  refine G.gddf ?_ ?_ <;> intro h0
  · (repeat (first | refine G.add (by omega) ?_ | refine G.sub (by omega) ?_ | refine G.mul (by omega) ?_ | refine G.neg (by omega) ?_ | refine G.quo (by omega) (by omega) ?_ | refine G.rem (by omega) ?_ | refine G.shr (by omega) ?_ | refine G.conv (by omega) ?_ | refine G.step ?_ | refine G.buildA (by rfl) ?_ | (refine Gs.box ?_; intro _) | (refine Gs.alloc ?_; intro _) | refine Gs.store ?_ | refine G.retc ?_ | refine Gs.dr ?_ | refine G.qadd (by omega) ?_ | refine G.qsub (by omega) ?_ | refine G.qmul (by omega) ?_ | refine G.qkp ?_ | refine Gs.qkb ?_ | refine G.withT ?_ | refine Gs.withb ?_ | refine G.ift ?_ | refine G.iff ?_ | refine G.gdtt ?_ | refine G.gdff ?_ | refine G.gdtf ?_ | refine G.gdft ?_ | (refine G.jk ?_; intro _)))
    exact Gs.ret (by unfold rdP; rw [if_pos (by omega)])
  (repeat (first | refine G.add (by omega) ?_ | refine G.sub (by omega) ?_ | refine G.mul (by omega) ?_ | refine G.neg (by omega) ?_ | refine G.quo (by omega) (by omega) ?_ | refine G.rem (by omega) ?_ | refine G.shr (by omega) ?_ | refine G.conv (by omega) ?_ | refine G.step ?_ | refine G.buildA (by rfl) ?_ | (refine Gs.box ?_; intro _) | (refine Gs.alloc ?_; intro _) | refine Gs.store ?_ | refine G.retc ?_ | refine Gs.dr ?_ | refine G.qadd (by omega) ?_ | refine G.qsub (by omega) ?_ | refine G.qmul (by omega) ?_ | refine G.qkp ?_ | refine Gs.qkb ?_ | refine G.withT ?_ | refine Gs.withb ?_ | refine G.ift ?_ | refine G.iff ?_ | refine G.gdtt ?_ | refine G.gdff ?_ | refine G.gdtf ?_ | refine G.gdft ?_ | refine G.jn ?_ | (refine G.jk ?_; intro _)))
  refine G.ifd ?_ ?_ <;> intro h1
  · exact Gs.ret (by unfold rdP; rw [if_pos (by omega)])
  have hR : rdP l = rdF l 0 := by unfold rdP; rw [if_neg (by omega)]
  rw [hR]
  generalize hRR : rdF l 0 = R at *
  refine Gs.lp (β := Nat × Int) (fun b => (I b.2, I b.1)) (fun _ => h) (fun _ => _) (fun b => b.1 ≤ l.length ∧ rdF (l.drop b.1) b.2 = R ∧ 0 ≤ b.2 ∧ b.2 < 10 ^ b.1) (fun b => l.length - b.1) (0, 0) rfl ⟨by dsimp only; omega, hRR, Int.le_refl 0, by decide⟩ (fun _ h => h) ?_
  rintro ⟨i, n⟩ ⟨hi, hr, hn0, hn1⟩ cont hc
  dsimp only at *
  (repeat (first | refine G.add (by omega) ?_ | refine G.sub (by omega) ?_ | refine G.mul (by omega) ?_ | refine G.neg (by omega) ?_ | refine G.quo (by omega) (by omega) ?_ | refine G.rem (by omega) ?_ | refine G.shr (by omega) ?_ | refine G.conv (by omega) ?_ | refine G.step ?_ | refine G.buildA (by rfl) ?_ | (refine Gs.box ?_; intro _) | (refine Gs.alloc ?_; intro _) | refine Gs.store ?_ | refine G.retc ?_ | refine Gs.dr ?_ | refine G.qadd (by omega) ?_ | refine G.qsub (by omega) ?_ | refine G.qmul (by omega) ?_ | refine G.qkp ?_ | refine Gs.qkb ?_ | refine G.withT ?_ | refine Gs.withb ?_ | refine G.ift ?_ | refine G.iff ?_ | refine G.gdtt ?_ | refine G.gdff ?_ | refine G.gdtf ?_ | refine G.gdft ?_ | (refine G.jk ?_; intro _)))
  refine G.ifd ?_ ?_ <;> intro hlt
  · have hlt' : i < l.length := by omega
    have hp : (10 : Int) ^ i ≤ 10 ^ 14 := by exact_mod_cast Nat.pow_le_pow_right (by decide) (by omega)
    have hp2 : (10 : Int) ^ 14 = 100000000000000 := by decide
    have hp3 : (10 : Int) ^ (i + 1) = 10 ^ i * 10 := Int.pow_succ 10 i
    rw [List.drop_eq_getElem_cons hlt'] at hr
    have hcb := l[i].toNat_lt
    refine G.jn ?_
    refine G.sindex (by omega) (by rw [Int.toNat_natCast]; exact hlt') ?_
    simp only [Int.toNat_natCast]
    refine G.step ?_
    refine G.gddf ?_ ?_ <;> intro h2
    · (repeat (first | refine G.add (by omega) ?_ | refine G.sub (by omega) ?_ | refine G.mul (by omega) ?_ | refine G.neg (by omega) ?_ | refine G.quo (by omega) (by omega) ?_ | refine G.rem (by omega) ?_ | refine G.shr (by omega) ?_ | refine G.conv (by omega) ?_ | refine G.step ?_ | refine G.buildA (by rfl) ?_ | (refine Gs.box ?_; intro _) | (refine Gs.alloc ?_; intro _) | refine Gs.store ?_ | refine G.retc ?_ | refine Gs.dr ?_ | refine G.qadd (by omega) ?_ | refine G.qsub (by omega) ?_ | refine G.qmul (by omega) ?_ | refine G.qkp ?_ | refine Gs.qkb ?_ | refine G.withT ?_ | refine Gs.withb ?_ | refine G.ift ?_ | refine G.iff ?_ | refine G.gdtt ?_ | refine G.gdff ?_ | refine G.gdtf ?_ | refine G.gdft ?_ | (refine G.jk ?_; intro _)))
      refine Gs.ret ?_
      rw [← hr]; unfold rdF; rw [if_pos (.inl h2)]
    refine G.sindex (by omega) (by rw [Int.toNat_natCast]; exact hlt') ?_
    simp only [Int.toNat_natCast]
    (repeat (first | refine G.add (by omega) ?_ | refine G.sub (by omega) ?_ | refine G.mul (by omega) ?_ | refine G.neg (by omega) ?_ | refine G.quo (by omega) (by omega) ?_ | refine G.rem (by omega) ?_ | refine G.shr (by omega) ?_ | refine G.conv (by omega) ?_ | refine G.step ?_ | refine G.buildA (by rfl) ?_ | (refine Gs.box ?_; intro _) | (refine Gs.alloc ?_; intro _) | refine Gs.store ?_ | refine G.retc ?_ | refine Gs.dr ?_ | refine G.qadd (by omega) ?_ | refine G.qsub (by omega) ?_ | refine G.qmul (by omega) ?_ | refine G.qkp ?_ | refine Gs.qkb ?_ | refine G.withT ?_ | refine Gs.withb ?_ | refine G.ift ?_ | refine G.iff ?_ | refine G.gdtt ?_ | refine G.gdff ?_ | refine G.gdtf ?_ | refine G.gdft ?_ | (refine G.jk ?_; intro _)))
    refine G.ifd ?_ ?_ <;> intro h3
    · refine Gs.ret ?_
      rw [← hr]; unfold rdF; rw [if_pos (.inr h3)]
    refine G.mul (by omega) ?_
    refine G.sindex (by omega) (by rw [Int.toNat_natCast]; exact hlt') ?_
    simp only [Int.toNat_natCast]
    refine G.step ?_
    rw [u8sub _ (by omega)]
    refine G.conv (by omega) ?_
    refine G.add (by omega) ?_
    refine G.add (by omega) ?_
    refine Gs.go (hc (i + 1, 10 * n + ((l[i].toNat : Int) - 48)) ⟨by dsimp only; omega, ?_, by dsimp only; omega, by dsimp only; omega⟩ (by dsimp only; omega)) rfl
    dsimp only
    rw [← hr]
    conv => rhs; unfold rdF
    rw [if_neg (by omega)]
  · refine Gs.ret ?_
    rw [← hr, List.drop_eq_nil_of_le (by omega)]; rfl
end Go.Proofs.YtcapijkioaocmaaDoor
end

section
set_option linter.unusedVariables false
set_option maxHeartbeats 1000000
namespace Go.Proofs.YtcapijkioaocmaaDoor
open Go Go.Sk Go.Dy
def dgt (c : UInt8) : Prop := 48 ≤ (c.toNat : Int) ∧ (c.toNat : Int) ≤ 57
theorem dgt_of (u : Nat) (h : u < 10) : dgt (UInt8.ofNat (48 + u)) ∧ ((UInt8.ofNat (48 + u)).toNat : Int) - 48 = u := by
  unfold dgt
  rw [UInt8.toNat_ofNat']
  omega
theorem dec_step (u : Nat) (h : ¬ u < 10) : Lib.decDigits u = Lib.decDigits (u / 10) ++ [UInt8.ofNat (48 + u % 10)] := by
  conv => lhs; rw [Lib.decDigits, dif_neg h]
theorem dec_dgt (u : Nat) : ∀ c ∈ Lib.decDigits u, dgt c := by
  induction u using Nat.strongRecOn with
  | ind u ih =>
    intro c hc
    by_cases h : u < 10
    · rw [Lib.decDigits_one h] at hc
      simp only [List.mem_singleton] at hc
      subst hc; exact (dgt_of u h).1
    · rw [dec_step u h] at hc
      rcases List.mem_append.1 hc with h1 | h1
      · exact ih (u / 10) (by omega) c h1
      · simp only [List.mem_singleton] at h1
        subst h1; exact (dgt_of (u % 10) (by omega)).1
theorem dec_ne (u : Nat) : Lib.decDigits u ≠ [] := by
  by_cases h : u < 10
  · rw [Lib.decDigits_one h]; simp
  · rw [dec_step u h]; simp
theorem rdF_cons (c : UInt8) (r : List UInt8) (n : Int) : rdF (c :: r) n = if (c.toNat : Int) < 48 ∨ 57 < (c.toNat : Int) then -1 else rdF r (10 * n + ((c.toNat : Int) - 48)) := rfl
theorem rdF_append : ∀ (a b : List UInt8) (n : Int), (∀ c ∈ a, dgt c) → rdF (a ++ b) n = rdF b (rdF a n)
  | [], b, n, _ => rfl
  | c :: a, b, n, h => by
    have hc := h c (by simp)
    unfold dgt at hc
    show rdF (c :: (a ++ b)) n = rdF b (rdF (c :: a) n)
    rw [rdF_cons, rdF_cons, if_neg (by omega), if_neg (by omega)]
    exact rdF_append a b _ (fun c hc => h c (by simp [hc]))
theorem rdF_dec (u : Nat) : rdF (Lib.decDigits u) 0 = u := by
  induction u using Nat.strongRecOn with
  | ind u ih =>
    by_cases h : u < 10
    · rw [Lib.decDigits_one h]
      have := dgt_of u h
      unfold dgt at this
      show (if _ then _ else rdF [] _) = _
      rw [if_neg (by omega)]
      show 10 * 0 + _ = _
      omega
    · rw [dec_step u h, rdF_append _ _ _ (dec_dgt _), ih (u / 10) (by omega)]
      have := dgt_of (u % 10) (by omega)
      unfold dgt at this
      show (if _ then _ else rdF [] _) = _
      rw [if_neg (by omega)]
      show 10 * _ + _ = _
      omega
theorem dec_length (k : Nat) : ∀ u : Nat, u < 10 ^ (k + 1) → (Lib.decDigits u).length ≤ k + 1 := by
  induction k with
  | zero => intro u hu; rw [Lib.decDigits_one (by simpa using hu)]; simp
  | succ k ih =>
    intro u hu
    by_cases h : u < 10
    · rw [Lib.decDigits_one h]; simp
    · rw [dec_step u h, List.length_append]
      have := ih (u / 10) (by rw [Nat.pow_succ] at hu; omega)
      simp; omega
theorem rdP_dec (u : Nat) (hu : u < 1000000000000000) : rdP (Lib.decDigits u) = u := by
  have h1 := dec_length 14 u (by simpa using hu)
  have h2 := dec_ne u
  have h3 : (Lib.decDigits u).length ≠ 0 := fun e => h2 (List.eq_nil_of_length_eq_zero e)
  unfold rdP
  rw [if_neg (by omega), rdF_dec]
/-- The parts before and behind the first '/'. -/
def sp : List UInt8 → List UInt8 × List UInt8
  | [] => ([], [49])
  | c :: r => if c = 47 then ([], r) else (c :: (sp r).1, (sp r).2)
theorem sp_gap : ∀ (a b : List UInt8), (∀ c ∈ a, c ≠ 47) → sp (a ++ [47] ++ b) = (a, b)
  | [], b, _ => by simp [sp]
  | c :: a, b, h => by
    show sp (c :: (a ++ [47] ++ b)) = _
    unfold sp
    rw [if_neg (h c (by simp)), sp_gap a b (fun c hc => h c (by simp [hc]))]
theorem sp_none : ∀ (a : List UInt8), (∀ c ∈ a, c ≠ 47) → sp a = (a, [49])
  | [], _ => rfl
  | c :: a, h => by
    unfold sp
    rw [if_neg (h c (by simp)), sp_none a (fun c hc => h c (by simp [hc]))]
theorem dgt_ne (c : UInt8) (h : dgt c) : c ≠ 47 ∧ c ≠ 45 ∧ c ≠ 43 := by
  unfold dgt at h
  refine ⟨?_, ?_, ?_⟩ <;> (intro e; subst e; revert h; decide)
theorem itoa_ne (n : Int) : ∀ c ∈ Lib.itoa n, c ≠ 47 := by
  intro c hc
  unfold Lib.itoa at hc
  split at hc
  · rcases List.mem_cons.1 hc with h | h
    · subst h; decide
    · exact (dgt_ne c (dec_dgt _ c h)).1
  · exact (dgt_ne c (dec_dgt _ c hc)).1
theorem sp_txt (n : Int) (e : Nat) : sp (txt n e) = (Lib.itoa n, Lib.itoa (2 ^ e)) := by
  unfold txt
  split
  · rename_i h; subst h
    rw [sp_none _ (itoa_ne n)]
    have : Lib.itoa (2 ^ 0) = [49] := by
      rw [show (2 : Int) ^ 0 = ((1 : Nat) : Int) from rfl, Lib.itoa_nonneg, Lib.decDigits_one (by decide)]; rfl
    rw [this]
  · exact sp_gap _ _ (itoa_ne n)
/-- The sign, and what is behind it. -/
def sgn : List UInt8 → Int × List UInt8
  | [] => (1, [])
  | c :: r => if c = 45 then (-1, r) else (1, c :: r)
theorem sgn_itoa (n : Int) : (sgn (Lib.itoa n)).2 = Lib.decDigits n.natAbs ∧ (sgn (Lib.itoa n)).1 * (n.natAbs : Int) = n := by
  unfold Lib.itoa
  split
  · constructor
    · simp [sgn]
    · simp [sgn]; omega
  · have hd := dec_dgt n.natAbs
    have e : n.toNat = n.natAbs := by omega
    rw [e]
    cases hD : Lib.decDigits n.natAbs with
    | nil => exact absurd hD (dec_ne _)
    | cons c r =>
      have hc := (dgt_ne c (hd c (by rw [hD]; simp))).2.1
      simp only [sgn, if_neg hc]
      exact ⟨trivial, by omega⟩
theorem pow_odd : ∀ (x e : Nat) (d : Int), d * 2 ^ x = 2 ^ e → d % 2 = 1 → x = e
  | 0, 0, d, _, _ => rfl
  | 0, e + 1, d, h, ho => by rw [Int.pow_zero, Int.mul_one, Int.pow_succ] at h; omega
  | x + 1, 0, d, h, ho => by rw [Int.pow_zero, Int.pow_succ, ← Int.mul_assoc] at h; omega
  | x + 1, e + 1, d, h, ho => by
    rw [Int.pow_succ, Int.pow_succ, ← Int.mul_assoc] at h
    rw [pow_odd x e d (by omega) ho]
/-- What the reading of a valid fraction's text gives. -/
theorem txt_read (n : Int) (e : Nat) (h : Valid n e) : (sgn (sp (txt n e)).1).1 * rdP (sgn (sp (txt n e)).1).2 = n ∧ 0 ≤ rdP (sgn (sp (txt n e)).1).2 ∧ rdP (sp (txt n e)).2 = 2 ^ e := by
  obtain ⟨he, h1, h2, _⟩ := h
  rw [sp_txt]
  dsimp only
  obtain ⟨g1, g2⟩ := sgn_itoa n
  rw [g1, rdP_dec _ (by omega)]
  refine ⟨g2, by omega, ?_⟩
  have hp : (2 : Int) ^ e = ((2 ^ e : Nat) : Int) := by simp
  have hb : (2 : Nat) ^ e ≤ 2 ^ 30 := Nat.pow_le_pow_right (by decide) he
  rw [hp, Lib.itoa_nonneg, rdP_dec _ (by have : (2 : Nat) ^ 30 = 1073741824 := by decide
                                         omega)]
theorem txt_inj (n : Int) (e : Nat) (m : Int) (f : Nat) (h : Valid n e) (h' : Valid m f) (ht : txt n e = txt m f) : n = m ∧ e = f := by
  have a := txt_read n e h
  have b := txt_read m f h'
  rw [ht] at a
  refine ⟨a.1.symm.trans b.1, ?_⟩
  have : (2 : Int) ^ e = 2 ^ f := a.2.2.symm.trans b.2.2
  exact pow_odd e f 1 (by rw [Int.one_mul]; exact this) rfl
open Classical in
noncomputable def parseS (s : List UInt8) : Int × Int × Int :=
  if h : ∃ p : Int × Nat, Valid p.1 p.2 ∧ txt p.1 p.2 = s then ((Classical.choose h).1, ((Classical.choose h).2 : Int), 0) else (0, 0, 3)
theorem parseS_txt (n : Int) (e : Nat) (h : Valid n e) : parseS (txt n e) = (n, (e : Int), 0) := by
  have hx : ∃ p : Int × Nat, Valid p.1 p.2 ∧ txt p.1 p.2 = txt n e := ⟨(n, e), h, rfl⟩
  unfold parseS
  rw [dif_pos hx]
  have hs := Classical.choose_spec hx
  have := txt_inj _ _ _ _ hs.1 h hs.2
  rw [this.1, this.2]
theorem parseS_no (s : List UInt8) (h : ∀ n e, Valid n e → txt n e ≠ s) : parseS s = (0, 0, 3) := by
  unfold parseS
  rw [dif_neg]
  rintro ⟨p, h1, h2⟩
  exact h _ _ h1 h2
attribute [irreducible] parseS
end Go.Proofs.YtcapijkioaocmaaDoor
end

section
set_option linter.unusedVariables false
set_option maxHeartbeats 4000000
namespace Go.Proofs.YtcapijkioaocmaaDoor
open Go Go.Sk Go.Dy
theorem rdF_bd : ∀ (l : List UInt8) (n : Int) (k : Nat), 0 ≤ n → n < 10 ^ k → -1 ≤ rdF l n ∧ rdF l n < 10 ^ (k + l.length)
  | [], n, k, h0, h1 => ⟨by show -1 ≤ n; omega, h1⟩
  | c :: r, n, k, h0, h1 => by
    rw [rdF_cons]
    have hp : (0 : Int) < 10 ^ (k + (c :: r).length) := Int.pow_pos (by decide)
    split
    · exact ⟨by omega, by omega⟩
    · have h2 := c.toNat_lt
      have := rdF_bd r (10 * n + ((c.toNat : Int) - 48)) (k + 1) (by omega) (by rw [Int.pow_succ]; omega)
      rw [show k + (c :: r).length = k + 1 + r.length by simp; omega]
      exact this
theorem rdP_bd (l : List UInt8) : -1 ≤ rdP l ∧ rdP l < 1000000000000000 := by
  unfold rdP
  split
  · exact ⟨by omega, by omega⟩
  · have h := rdF_bd l 0 0 (by omega) (by decide)
    rw [Nat.zero_add] at h
    have : (10 : Int) ^ l.length ≤ 10 ^ 15 := by exact_mod_cast Nat.pow_le_pow_right (by decide) (by omega)
    have h15 : (10 : Int) ^ 15 = 1000000000000000 := by decide
    omega
theorem sp_len : ∀ l : List UInt8, (sp l).1.length ≤ l.length ∧ (sp l).2.length ≤ l.length + 1
  | [] => by simp [sp]
  | c :: r => by
    have := sp_len r
    unfold sp
    split <;> simp <;> omega
theorem sgn_len (l : List UInt8) : (sgn l).2.length ≤ l.length ∧ ((sgn l).1 = 1 ∨ (sgn l).1 = -1) := by
  unfold sgn
  split
  · simp
  · split <;> simp
attribute [local irreducible] rdP txt
theorem parsed_ok (l : List UInt8) (h : Hp) (hl : l.length ≤ 4294967000) : Ct Tryd.prog 48 [Str l] h (fun _ v => v = Got (parseS l)) := by
  refine ct48 ?_
  intro w0
  unfold s48
  have hsl := sp_len l
  (repeat (first | refine G.add (by omega) ?_ | refine G.sub (by omega) ?_ | refine G.mul (by omega) ?_ | refine G.neg (by omega) ?_ | refine G.quo (by omega) (by omega) ?_ | refine G.rem (by omega) ?_ | refine G.shr (by omega) ?_ | refine G.conv (by omega) ?_ | refine G.step ?_ | refine G.buildA (by rfl) ?_ | (refine Gs.box ?_; intro _) | (refine Gs.alloc ?_; intro _) | refine Gs.store ?_ | refine G.retc ?_ | refine Gs.dr ?_ | refine G.qadd (by omega) ?_ | refine G.qsub (by omega) ?_ | refine G.qmul (by omega) ?_ | refine G.qkp ?_ | refine Gs.qkb ?_ | refine G.withT ?_ | refine Gs.withb ?_ | refine G.ift ?_ | refine G.iff ?_ | refine G.gdtt ?_ | refine G.gdff ?_ | refine G.gdtf ?_ | refine G.gdft ?_ | (refine G.jk ?_; intro _)))
  refine G.jnP (fun a => a = (Str (sp l).1, Str (sp l).2)) ?_ ?_
  · rintro a rfl
    dsimp only
    refine G.jk ?_
    intro _
    have hgl := sgn_len (sp l).1
    refine G.jnP (fun a => a = (Str (sgn (sp l).1).2, I (sgn (sp l).1).1)) ?_ ?_
    · rintro a rfl
      dsimp only
      have hread : ∀ n e, Valid n e → txt n e = l → (sgn (sp l).1).1 * rdP (sgn (sp l).1).2 = n ∧ 0 ≤ rdP (sgn (sp l).1).2 ∧ rdP (sp l).2 = 2 ^ e := by
        rintro n e hv rfl
        exact txt_read n e hv
      refine G.jk ?_
      intro _
      refine Gs.callv0 (read_ok _ h (by omega)) ?_
      refine Gs.callv0 (read_ok _ h (by omega)) ?_
      have hb1 := rdP_bd (sgn (sp l).1).2
      have hb2 := rdP_bd (sp l).2
      have hgs := hgl.2
      generalize rdP (sgn (sp l).1).2 = n at *
      generalize rdP (sp l).2 = d0 at *
      generalize (sgn (sp l).1).1 = g at *
      have hno : n < 0 ∨ d0 < 1 → parseS l = (0, 0, 3) := fun hc => parseS_no l (fun n' e' hv ht => by
        obtain ⟨_, h2, h3⟩ := hread n' e' hv ht
        have := two_pow_pos e'
        omega)
      have hgn : -1000000000000000 ≤ g * n ∧ g * n ≤ 1000000000000000 := by
        rcases hgs with hg | hg <;> rw [hg] <;> omega
      ((repeat (first | refine G.add (by omega) ?_ | refine G.sub (by omega) ?_ | refine G.mul (by omega) ?_ | refine G.neg (by omega) ?_ | refine G.quo (by omega) (by omega) ?_ | refine G.rem (by omega) ?_ | refine G.shr (by omega) ?_ | refine G.conv (by omega) ?_ | refine G.step ?_ | refine G.buildA (by rfl) ?_ | (refine Gs.box ?_; intro _) | (refine Gs.alloc ?_; intro _) | refine Gs.store ?_ | refine G.retc ?_ | refine Gs.dr ?_ | refine G.qadd (by omega) ?_ | refine G.qsub (by omega) ?_ | refine G.qmul (by omega) ?_ | refine G.qkp ?_ | refine Gs.qkb ?_ | refine G.withT ?_ | refine Gs.withb ?_ | refine G.ift ?_ | refine G.iff ?_ | refine G.gdtt ?_ | refine G.gdff ?_ | refine G.gdtf ?_ | refine G.gdft ?_ | refine G.jn ?_ | (refine G.jk ?_; intro _))); repeat (any_goals ((first | (refine G.ifd ?_ ?_ <;> intro _) | (refine G.ifb ?_ ?_ <;> intro _) | (refine G.gddt ?_ ?_ <;> intro _) | (refine G.gddf ?_ ?_ <;> intro _) | (refine G.gdbt ?_ ?_ <;> intro _) | (refine G.gdbf ?_ ?_ <;> intro _)) <;> (try (exfalso; omega; done)) <;> (repeat (first | refine G.add (by omega) ?_ | refine G.sub (by omega) ?_ | refine G.mul (by omega) ?_ | refine G.neg (by omega) ?_ | refine G.quo (by omega) (by omega) ?_ | refine G.rem (by omega) ?_ | refine G.shr (by omega) ?_ | refine G.conv (by omega) ?_ | refine G.step ?_ | refine G.buildA (by rfl) ?_ | (refine Gs.box ?_; intro _) | (refine Gs.alloc ?_; intro _) | refine Gs.store ?_ | refine G.retc ?_ | refine Gs.dr ?_ | refine G.qadd (by omega) ?_ | refine G.qsub (by omega) ?_ | refine G.qmul (by omega) ?_ | refine G.qkp ?_ | refine Gs.qkb ?_ | refine G.withT ?_ | refine Gs.withb ?_ | refine G.ift ?_ | refine G.iff ?_ | refine G.gdtt ?_ | refine G.gdff ?_ | refine G.gdtf ?_ | refine G.gdft ?_ | refine G.jn ?_ | (refine G.jk ?_; intro _))))))
      · exact Gs.ret (by rw [hno (.inl (by assumption))])
      · exact Gs.ret (by rw [hno (.inr (by assumption))])
      clear hno
      refine Gs.lp (β := Int × Nat) (fun b => (I b.1, I b.2)) (fun _ => h) (fun _ => _) (fun b => b.1 * 2 ^ b.2 = d0 ∧ 1 ≤ b.1 ∧ b.1 ≤ d0 ∧ b.2 ≤ 31) (fun b => 31 - b.2) (d0, 0) rfl ⟨by simp, by dsimp only; omega, by dsimp only; omega, by dsimp only; omega⟩ (fun _ h => h) ?_
      rintro ⟨d, x⟩ ⟨hd, hd1, hd2, hx⟩ cont hc
      dsimp only at *
      have hev := tmod2 d
      have hfin : (d % 2 = 1 ∨ x = 31) → ∀ n' e', Valid n' e' → txt n' e' = l → g * n = n' ∧ x = e' := by
        intro hc n' e' hv ht
        obtain ⟨h1, _, h3⟩ := hread n' e' hv ht
        refine ⟨h1, ?_⟩
        rcases hc with hc | hc
        · exact pow_odd x e' d (hd.trans h3) hc
        · exfalso
          have h4 : (2 : Int) ^ e' ≤ 2 ^ 30 := two_pow_le hv.1
          have h5 : (2 : Int) ^ 30 = 1073741824 := by decide
          have h6 : (2 : Int) ^ 31 = 2147483648 := by decide
          rw [hc, h6] at hd
          omega
      ((repeat (first | refine G.add (by omega) ?_ | refine G.sub (by omega) ?_ | refine G.mul (by omega) ?_ | refine G.neg (by omega) ?_ | refine G.quo (by omega) (by omega) ?_ | refine G.rem (by omega) ?_ | refine G.shr (by omega) ?_ | refine G.conv (by omega) ?_ | refine G.step ?_ | refine G.buildA (by rfl) ?_ | (refine Gs.box ?_; intro _) | (refine Gs.alloc ?_; intro _) | refine Gs.store ?_ | refine G.retc ?_ | refine Gs.dr ?_ | refine G.qadd (by omega) ?_ | refine G.qsub (by omega) ?_ | refine G.qmul (by omega) ?_ | refine G.qkp ?_ | refine Gs.qkb ?_ | refine G.withT ?_ | refine Gs.withb ?_ | refine G.ift ?_ | refine G.iff ?_ | refine G.gdtt ?_ | refine G.gdff ?_ | refine G.gdtf ?_ | refine G.gdft ?_ | refine G.jn ?_ | (refine G.jk ?_; intro _))); repeat (any_goals ((first | (refine G.ifd ?_ ?_ <;> intro _) | (refine G.ifb ?_ ?_ <;> intro _) | (refine G.gddt ?_ ?_ <;> intro _) | (refine G.gddf ?_ ?_ <;> intro _) | (refine G.gdbt ?_ ?_ <;> intro _) | (refine G.gdbf ?_ ?_ <;> intro _)) <;> (try (exfalso; omega; done)) <;> (repeat (first | refine G.add (by omega) ?_ | refine G.sub (by omega) ?_ | refine G.mul (by omega) ?_ | refine G.neg (by omega) ?_ | refine G.quo (by omega) (by omega) ?_ | refine G.rem (by omega) ?_ | refine G.shr (by omega) ?_ | refine G.conv (by omega) ?_ | refine G.step ?_ | refine G.buildA (by rfl) ?_ | (refine Gs.box ?_; intro _) | (refine Gs.alloc ?_; intro _) | refine Gs.store ?_ | refine G.retc ?_ | refine Gs.dr ?_ | refine G.qadd (by omega) ?_ | refine G.qsub (by omega) ?_ | refine G.qmul (by omega) ?_ | refine G.qkp ?_ | refine Gs.qkb ?_ | refine G.withT ?_ | refine Gs.withb ?_ | refine G.ift ?_ | refine G.iff ?_ | refine G.gdtt ?_ | refine G.gdff ?_ | refine G.gdtf ?_ | refine G.gdft ?_ | refine G.jn ?_ | (refine G.jk ?_; intro _))))))
      · have h2 := hev.1 (by assumption)
        refine Gs.go (hc (d / 2, x + 1) ⟨?_, by dsimp only; omega, by dsimp only; omega, by dsimp only; omega⟩ (by dsimp only; omega)) ?_
        · dsimp only
          rw [← hd, Int.pow_succ, ← Int.mul_assoc, Int.mul_comm _ 2, ← Int.mul_assoc]
          congr 1
          omega
        · rw [tdiv2 d h2]; rfl
      all_goals
        have hfin := hfin (by omega)
        generalize g * n = z at *
        refine Gs.callv0 (rvalid_ok z x h) ?_
        cases hv : validB z x
        · ((repeat (first | refine G.add (by omega) ?_ | refine G.sub (by omega) ?_ | refine G.mul (by omega) ?_ | refine G.neg (by omega) ?_ | refine G.quo (by omega) (by omega) ?_ | refine G.rem (by omega) ?_ | refine G.shr (by omega) ?_ | refine G.conv (by omega) ?_ | refine G.step ?_ | refine G.buildA (by rfl) ?_ | (refine Gs.box ?_; intro _) | (refine Gs.alloc ?_; intro _) | refine Gs.store ?_ | refine G.retc ?_ | refine Gs.dr ?_ | refine G.qadd (by omega) ?_ | refine G.qsub (by omega) ?_ | refine G.qmul (by omega) ?_ | refine G.qkp ?_ | refine Gs.qkb ?_ | refine G.withT ?_ | refine Gs.withb ?_ | refine G.ift ?_ | refine G.iff ?_ | refine G.gdtt ?_ | refine G.gdff ?_ | refine G.gdtf ?_ | refine G.gdft ?_ | refine G.jn ?_ | (refine G.jk ?_; intro _))); repeat (any_goals ((first | (refine G.ifd ?_ ?_ <;> intro _) | (refine G.ifb ?_ ?_ <;> intro _) | (refine G.gddt ?_ ?_ <;> intro _) | (refine G.gddf ?_ ?_ <;> intro _) | (refine G.gdbt ?_ ?_ <;> intro _) | (refine G.gdbf ?_ ?_ <;> intro _)) <;> (try (exfalso; omega; done)) <;> (repeat (first | refine G.add (by omega) ?_ | refine G.sub (by omega) ?_ | refine G.mul (by omega) ?_ | refine G.neg (by omega) ?_ | refine G.quo (by omega) (by omega) ?_ | refine G.rem (by omega) ?_ | refine G.shr (by omega) ?_ | refine G.conv (by omega) ?_ | refine G.step ?_ | refine G.buildA (by rfl) ?_ | (refine Gs.box ?_; intro _) | (refine Gs.alloc ?_; intro _) | refine Gs.store ?_ | refine G.retc ?_ | refine Gs.dr ?_ | refine G.qadd (by omega) ?_ | refine G.qsub (by omega) ?_ | refine G.qmul (by omega) ?_ | refine G.qkp ?_ | refine Gs.qkb ?_ | refine G.withT ?_ | refine Gs.withb ?_ | refine G.ift ?_ | refine G.iff ?_ | refine G.gdtt ?_ | refine G.gdff ?_ | refine G.gdtf ?_ | refine G.gdft ?_ | refine G.jn ?_ | (refine G.jk ?_; intro _))))))
          exact Gs.ret (by
            rw [parseS_no l (fun n' e' hv' ht => by
              obtain ⟨h1, h2⟩ := hfin n' e' hv' ht
              rw [h1, h2, (validB_iff _ _).2 hv'] at hv
              cases hv)])
        · (repeat (first | refine G.add (by omega) ?_ | refine G.sub (by omega) ?_ | refine G.mul (by omega) ?_ | refine G.neg (by omega) ?_ | refine G.quo (by omega) (by omega) ?_ | refine G.rem (by omega) ?_ | refine G.shr (by omega) ?_ | refine G.conv (by omega) ?_ | refine G.step ?_ | refine G.buildA (by rfl) ?_ | (refine Gs.box ?_; intro _) | (refine Gs.alloc ?_; intro _) | refine Gs.store ?_ | refine G.retc ?_ | refine Gs.dr ?_ | refine G.qadd (by omega) ?_ | refine G.qsub (by omega) ?_ | refine G.qmul (by omega) ?_ | refine G.qkp ?_ | refine Gs.qkb ?_ | refine G.withT ?_ | refine Gs.withb ?_ | refine G.ift ?_ | refine G.iff ?_ | refine G.gdtt ?_ | refine G.gdff ?_ | refine G.gdtf ?_ | refine G.gdft ?_ | refine G.jn ?_ | (refine G.jk ?_; intro _)))
          refine Gs.callv0 (rPrint_ok z x h (by omega) (by omega) (by omega)) ?_
          (repeat (first | refine G.add (by omega) ?_ | refine G.sub (by omega) ?_ | refine G.mul (by omega) ?_ | refine G.neg (by omega) ?_ | refine G.quo (by omega) (by omega) ?_ | refine G.rem (by omega) ?_ | refine G.shr (by omega) ?_ | refine G.conv (by omega) ?_ | refine G.step ?_ | refine G.buildA (by rfl) ?_ | (refine Gs.box ?_; intro _) | (refine Gs.alloc ?_; intro _) | refine Gs.store ?_ | refine G.retc ?_ | refine Gs.dr ?_ | refine G.qadd (by omega) ?_ | refine G.qsub (by omega) ?_ | refine G.qmul (by omega) ?_ | refine G.qkp ?_ | refine Gs.qkb ?_ | refine G.withT ?_ | refine Gs.withb ?_ | refine G.ift ?_ | refine G.iff ?_ | refine G.gdtt ?_ | refine G.gdff ?_ | refine G.gdtf ?_ | refine G.gdft ?_ | refine G.jn ?_ | (refine G.jk ?_; intro _)))
          refine G.ifd ?_ ?_ <;> intro hne
          · (repeat (first | refine G.add (by omega) ?_ | refine G.sub (by omega) ?_ | refine G.mul (by omega) ?_ | refine G.neg (by omega) ?_ | refine G.quo (by omega) (by omega) ?_ | refine G.rem (by omega) ?_ | refine G.shr (by omega) ?_ | refine G.conv (by omega) ?_ | refine G.step ?_ | refine G.buildA (by rfl) ?_ | (refine Gs.box ?_; intro _) | (refine Gs.alloc ?_; intro _) | refine Gs.store ?_ | refine G.retc ?_ | refine Gs.dr ?_ | refine G.qadd (by omega) ?_ | refine G.qsub (by omega) ?_ | refine G.qmul (by omega) ?_ | refine G.qkp ?_ | refine Gs.qkb ?_ | refine G.withT ?_ | refine Gs.withb ?_ | refine G.ift ?_ | refine G.iff ?_ | refine G.gdtt ?_ | refine G.gdff ?_ | refine G.gdtf ?_ | refine G.gdft ?_ | (refine G.jk ?_; intro _)))
            exact Gs.ret (by
              rw [parseS_no l (fun n' e' hv' ht => by
                obtain ⟨h1, h2⟩ := hfin n' e' hv' ht
                rw [h1, h2] at hne
                exact hne ht)])
          · (repeat (first | refine G.add (by omega) ?_ | refine G.sub (by omega) ?_ | refine G.mul (by omega) ?_ | refine G.neg (by omega) ?_ | refine G.quo (by omega) (by omega) ?_ | refine G.rem (by omega) ?_ | refine G.shr (by omega) ?_ | refine G.conv (by omega) ?_ | refine G.step ?_ | refine G.buildA (by rfl) ?_ | (refine Gs.box ?_; intro _) | (refine Gs.alloc ?_; intro _) | refine Gs.store ?_ | refine G.retc ?_ | refine Gs.dr ?_ | refine G.qadd (by omega) ?_ | refine G.qsub (by omega) ?_ | refine G.qmul (by omega) ?_ | refine G.qkp ?_ | refine Gs.qkb ?_ | refine G.withT ?_ | refine Gs.withb ?_ | refine G.ift ?_ | refine G.iff ?_ | refine G.gdtt ?_ | refine G.gdff ?_ | refine G.gdtf ?_ | refine G.gdft ?_ | (refine G.jk ?_; intro _)))
            have he : txt z x = l := Classical.byContradiction fun hh => hne hh
            exact Gs.ret (by rw [← he, parseS_txt z x ((validB_iff _ _).1 hv)])
    · intro K hK
      clear hgl
      have hl1 : (sp l).1.length ≤ 4294967000 := by omega
      generalize (sp l).1 = t at *
      cases t with
      | nil =>
        ((repeat (first | refine G.add (by omega) ?_ | refine G.sub (by omega) ?_ | refine G.mul (by omega) ?_ | refine G.neg (by omega) ?_ | refine G.quo (by omega) (by omega) ?_ | refine G.rem (by omega) ?_ | refine G.shr (by omega) ?_ | refine G.conv (by omega) ?_ | refine G.step ?_ | refine G.buildA (by rfl) ?_ | (refine Gs.box ?_; intro _) | (refine Gs.alloc ?_; intro _) | refine Gs.store ?_ | refine G.retc ?_ | refine Gs.dr ?_ | refine G.qadd (by omega) ?_ | refine G.qsub (by omega) ?_ | refine G.qmul (by omega) ?_ | refine G.qkp ?_ | refine Gs.qkb ?_ | refine G.withT ?_ | refine Gs.withb ?_ | refine G.ift ?_ | refine G.iff ?_ | refine G.gdtt ?_ | refine G.gdff ?_ | refine G.gdtf ?_ | refine G.gdft ?_ | refine G.jn ?_ | (refine G.jk ?_; intro _))); repeat (any_goals ((first | (refine G.ifd ?_ ?_ <;> intro _) | (refine G.ifb ?_ ?_ <;> intro _) | (refine G.gddt ?_ ?_ <;> intro _) | (refine G.gddf ?_ ?_ <;> intro _) | (refine G.gdbt ?_ ?_ <;> intro _) | (refine G.gdbf ?_ ?_ <;> intro _)) <;> (try (exfalso; omega; done)) <;> (repeat (first | refine G.add (by omega) ?_ | refine G.sub (by omega) ?_ | refine G.mul (by omega) ?_ | refine G.neg (by omega) ?_ | refine G.quo (by omega) (by omega) ?_ | refine G.rem (by omega) ?_ | refine G.shr (by omega) ?_ | refine G.conv (by omega) ?_ | refine G.step ?_ | refine G.buildA (by rfl) ?_ | (refine Gs.box ?_; intro _) | (refine Gs.alloc ?_; intro _) | refine Gs.store ?_ | refine G.retc ?_ | refine Gs.dr ?_ | refine G.qadd (by omega) ?_ | refine G.qsub (by omega) ?_ | refine G.qmul (by omega) ?_ | refine G.qkp ?_ | refine Gs.qkb ?_ | refine G.withT ?_ | refine Gs.withb ?_ | refine G.ift ?_ | refine G.iff ?_ | refine G.gdtt ?_ | refine G.gdff ?_ | refine G.gdtf ?_ | refine G.gdft ?_ | refine G.jn ?_ | (refine G.jk ?_; intro _))))))
        exact hK _ rfl
      | cons c r =>
        have hc := c.toNat_lt
        (repeat (first | refine G.add (by omega) ?_ | refine G.sub (by omega) ?_ | refine G.mul (by omega) ?_ | refine G.neg (by omega) ?_ | refine G.quo (by omega) (by omega) ?_ | refine G.rem (by omega) ?_ | refine G.shr (by omega) ?_ | refine G.conv (by omega) ?_ | refine G.step ?_ | refine G.buildA (by rfl) ?_ | (refine Gs.box ?_; intro _) | (refine Gs.alloc ?_; intro _) | refine Gs.store ?_ | refine G.retc ?_ | refine Gs.dr ?_ | refine G.qadd (by omega) ?_ | refine G.qsub (by omega) ?_ | refine G.qmul (by omega) ?_ | refine G.qkp ?_ | refine Gs.qkb ?_ | refine G.withT ?_ | refine Gs.withb ?_ | refine G.ift ?_ | refine G.iff ?_ | refine G.gdtt ?_ | refine G.gdff ?_ | refine G.gdtf ?_ | refine G.gdft ?_ | refine G.jn ?_ | (refine G.jk ?_; intro _)))
        refine G.gddt ?_ ?_ <;> intro h1
        · refine G.sindex (l := c :: r) (by omega) (by simp) ?_
          (repeat (first | refine G.add (by omega) ?_ | refine G.sub (by omega) ?_ | refine G.mul (by omega) ?_ | refine G.neg (by omega) ?_ | refine G.quo (by omega) (by omega) ?_ | refine G.rem (by omega) ?_ | refine G.shr (by omega) ?_ | refine G.conv (by omega) ?_ | refine G.step ?_ | refine G.buildA (by rfl) ?_ | (refine Gs.box ?_; intro _) | (refine Gs.alloc ?_; intro _) | refine Gs.store ?_ | refine G.retc ?_ | refine Gs.dr ?_ | refine G.qadd (by omega) ?_ | refine G.qsub (by omega) ?_ | refine G.qmul (by omega) ?_ | refine G.qkp ?_ | refine Gs.qkb ?_ | refine G.withT ?_ | refine Gs.withb ?_ | refine G.ift ?_ | refine G.iff ?_ | refine G.gdtt ?_ | refine G.gdff ?_ | refine G.gdtf ?_ | refine G.gdft ?_ | refine G.jn ?_ | (refine G.jk ?_; intro _)))
          refine G.ifd ?_ ?_ <;> intro h2
          · refine G.sfrom (l := c :: r) ⟨by omega, by simp; omega⟩ ?_
            have hc45 : c = 45 := by
              apply UInt8.toNat_inj.1
              have h3 : ((c.toNat : Nat) : Int) = 45 := h2
              show c.toNat = 45
              omega
            exact hK _ (by rw [hc45]; rfl)
          · have hc45 : c ≠ 45 := fun e => h2 (by subst e; rfl)
            exact hK _ (by simp only [sgn, if_neg hc45])
        · exfalso; simp at h1
  · intro K hK
    refine Gs.lp (β := Nat) (fun i => (Str l, Str [49], I i)) (fun _ => h) (fun _ => _) (fun i => i ≤ l.length ∧ (l.take i ++ (sp (l.drop i)).1, (sp (l.drop i)).2) = sp l) (fun i => l.length - i) 0 rfl ⟨Nat.zero_le _, rfl⟩ (fun _ h => h) ?_
    rintro i ⟨hi, hs⟩ cont hc
    (repeat (first | refine G.add (by omega) ?_ | refine G.sub (by omega) ?_ | refine G.mul (by omega) ?_ | refine G.neg (by omega) ?_ | refine G.quo (by omega) (by omega) ?_ | refine G.rem (by omega) ?_ | refine G.shr (by omega) ?_ | refine G.conv (by omega) ?_ | refine G.step ?_ | refine G.buildA (by rfl) ?_ | (refine Gs.box ?_; intro _) | (refine Gs.alloc ?_; intro _) | refine Gs.store ?_ | refine G.retc ?_ | refine Gs.dr ?_ | refine G.qadd (by omega) ?_ | refine G.qsub (by omega) ?_ | refine G.qmul (by omega) ?_ | refine G.qkp ?_ | refine Gs.qkb ?_ | refine G.withT ?_ | refine Gs.withb ?_ | refine G.ift ?_ | refine G.iff ?_ | refine G.gdtt ?_ | refine G.gdff ?_ | refine G.gdtf ?_ | refine G.gdft ?_ | (refine G.jk ?_; intro _)))
    refine G.ifd ?_ ?_ <;> intro hlt
    · have hlt' : i < l.length := by omega
      rw [List.drop_eq_getElem_cons hlt'] at hs
      refine G.sindex (by omega) (by rw [Int.toNat_natCast]; exact hlt') ?_
      simp only [Int.toNat_natCast]
      (repeat (first | refine G.add (by omega) ?_ | refine G.sub (by omega) ?_ | refine G.mul (by omega) ?_ | refine G.neg (by omega) ?_ | refine G.quo (by omega) (by omega) ?_ | refine G.rem (by omega) ?_ | refine G.shr (by omega) ?_ | refine G.conv (by omega) ?_ | refine G.step ?_ | refine G.buildA (by rfl) ?_ | (refine Gs.box ?_; intro _) | (refine Gs.alloc ?_; intro _) | refine Gs.store ?_ | refine G.retc ?_ | refine Gs.dr ?_ | refine G.qadd (by omega) ?_ | refine G.qsub (by omega) ?_ | refine G.qmul (by omega) ?_ | refine G.qkp ?_ | refine Gs.qkb ?_ | refine G.withT ?_ | refine Gs.withb ?_ | refine G.ift ?_ | refine G.iff ?_ | refine G.gdtt ?_ | refine G.gdff ?_ | refine G.gdtf ?_ | refine G.gdft ?_ | (refine G.jk ?_; intro _)))
      refine G.ifd ?_ ?_ <;> intro h2
      · have hc47 : l[i] = 47 := by
          apply UInt8.toNat_inj.1
          show l[i].toNat = 47
          omega
        refine G.sto ⟨by omega, by omega⟩ ?_
        (repeat (first | refine G.add (by omega) ?_ | refine G.sub (by omega) ?_ | refine G.mul (by omega) ?_ | refine G.neg (by omega) ?_ | refine G.quo (by omega) (by omega) ?_ | refine G.rem (by omega) ?_ | refine G.shr (by omega) ?_ | refine G.conv (by omega) ?_ | refine G.step ?_ | refine G.buildA (by rfl) ?_ | (refine Gs.box ?_; intro _) | (refine Gs.alloc ?_; intro _) | refine Gs.store ?_ | refine G.retc ?_ | refine Gs.dr ?_ | refine G.qadd (by omega) ?_ | refine G.qsub (by omega) ?_ | refine G.qmul (by omega) ?_ | refine G.qkp ?_ | refine Gs.qkb ?_ | refine G.withT ?_ | refine Gs.withb ?_ | refine G.ift ?_ | refine G.iff ?_ | refine G.gdtt ?_ | refine G.gdff ?_ | refine G.gdtf ?_ | refine G.gdft ?_ | (refine G.jk ?_; intro _)))
        refine G.sfrom ⟨by omega, by omega⟩ ?_
        refine hK _ ?_
        rw [← hs, hc47]
        rw [Int.toNat_natCast, show ((i : Int) + 1).toNat = i + 1 by omega]
        simp [sp]
      · have hc47 : l[i] ≠ 47 := fun e => h2 (by rw [e]; rfl)
        (repeat (first | refine G.add (by omega) ?_ | refine G.sub (by omega) ?_ | refine G.mul (by omega) ?_ | refine G.neg (by omega) ?_ | refine G.quo (by omega) (by omega) ?_ | refine G.rem (by omega) ?_ | refine G.shr (by omega) ?_ | refine G.conv (by omega) ?_ | refine G.step ?_ | refine G.buildA (by rfl) ?_ | (refine Gs.box ?_; intro _) | (refine Gs.alloc ?_; intro _) | refine Gs.store ?_ | refine G.retc ?_ | refine Gs.dr ?_ | refine G.qadd (by omega) ?_ | refine G.qsub (by omega) ?_ | refine G.qmul (by omega) ?_ | refine G.qkp ?_ | refine Gs.qkb ?_ | refine G.withT ?_ | refine Gs.withb ?_ | refine G.ift ?_ | refine G.iff ?_ | refine G.gdtt ?_ | refine G.gdff ?_ | refine G.gdtf ?_ | refine G.gdft ?_ | (refine G.jk ?_; intro _)))
        refine Gs.go (hc (i + 1) ⟨by omega, ?_⟩ (by omega)) rfl
        have hsp : sp (l[i] :: l.drop (i + 1)) = (l[i] :: (sp (l.drop (i + 1))).1, (sp (l.drop (i + 1))).2) := by simp [sp, hc47]
        rw [← hs, hsp, List.take_succ_eq_append_getElem hlt', List.append_assoc]
        rfl
    · refine hK _ ?_
      rw [← hs, List.drop_eq_nil_of_le (by omega), List.take_of_length_le (by omega)]
      simp [sp]
theorem rParse_ok (l : List UInt8) (h : Hp) (hl : l.length ≤ 4294967000) : Ct Tryd.prog 30 [Str l] h (fun _ v => v = Two (parseS l)) := by
  refine ct30 ?_
  intro w0
  unfold s30
  (repeat (first | refine G.add (by omega) ?_ | refine G.sub (by omega) ?_ | refine G.mul (by omega) ?_ | refine G.neg (by omega) ?_ | refine G.quo (by omega) (by omega) ?_ | refine G.rem (by omega) ?_ | refine G.shr (by omega) ?_ | refine G.conv (by omega) ?_ | refine G.step ?_ | refine G.buildA (by rfl) ?_ | (refine Gs.box ?_; intro _) | (refine Gs.alloc ?_; intro _) | refine Gs.store ?_ | refine G.retc ?_ | refine Gs.dr ?_ | refine G.qadd (by omega) ?_ | refine G.qsub (by omega) ?_ | refine G.qmul (by omega) ?_ | refine G.qkp ?_ | refine Gs.qkb ?_ | refine G.withT ?_ | refine Gs.withb ?_ | refine G.ift ?_ | refine G.iff ?_ | refine G.gdtt ?_ | refine G.gdff ?_ | refine G.gdtf ?_ | refine G.gdft ?_ | (refine G.jk ?_; intro _)))
  refine Gs.callv0 (parsed_ok l h hl) ?_
  (repeat (first | refine G.add (by omega) ?_ | refine G.sub (by omega) ?_ | refine G.mul (by omega) ?_ | refine G.neg (by omega) ?_ | refine G.quo (by omega) (by omega) ?_ | refine G.rem (by omega) ?_ | refine G.shr (by omega) ?_ | refine G.conv (by omega) ?_ | refine G.step ?_ | refine G.buildA (by rfl) ?_ | (refine Gs.box ?_; intro _) | (refine Gs.alloc ?_; intro _) | refine Gs.store ?_ | refine G.retc ?_ | refine Gs.dr ?_ | refine G.qadd (by omega) ?_ | refine G.qsub (by omega) ?_ | refine G.qmul (by omega) ?_ | refine G.qkp ?_ | refine Gs.qkb ?_ | refine G.withT ?_ | refine Gs.withb ?_ | refine G.ift ?_ | refine G.iff ?_ | refine G.gdtt ?_ | refine G.gdff ?_ | refine G.gdtf ?_ | refine G.gdft ?_ | (refine G.jk ?_; intro _)))
  exact Gs.ret rfl
end Go.Proofs.YtcapijkioaocmaaDoor
end

section
set_option linter.unusedVariables false
set_option maxHeartbeats 4000000
namespace Go.Proofs.YtcapijkioaocmaaDoor
open Go Go.Sk Go.Dy Go.RowKit
/-- What the library's variables hold. -/
structure Env (h : Hp) : Prop where
  tz : TzTab h
  pow : ∀ w, Hle h (World.hp w) → Lib.TabIs Tryd.prog w "internal/strconv.uint64pow10" .u64 Lib.pow10Tab
  mx : ∃ m, ∀ w, Hle h (World.hp w) → w.cell? ⟨2, 0, none⟩ = some (.int .i64 m)
  esyn : ∃ tp p, ∀ w, Hle h (World.hp w) → w.var? Tryd.prog "strconv.ErrSyntax" = some #[.iface tp p]
  eran : ∃ tp p, ∀ w, Hle h (World.hp w) → w.var? Tryd.prog "strconv.ErrRange" = some #[.iface tp p]
theorem Env.mono {h h' : Hp} (hle : Hle h h') (e : Env h) : Env h' where
  tz := e.tz.mono hle
  pow := fun w hw => e.pow w (hle.trans hw)
  mx := e.mx.imp fun m hm w hw => hm w (hle.trans hw)
  esyn := by obtain ⟨tp, p, hp⟩ := e.esyn; exact ⟨tp, p, fun w hw => hp w (hle.trans hw)⟩
  eran := by obtain ⟨tp, p, hp⟩ := e.eran; exact ⟨tp, p, fun w hw => hp w (hle.trans hw)⟩
theorem below_grow' (w : World) (k : Nat) (os : Array Obj) : Below w.heap.size w (Sort.grow (w.drewN k) os) := by
  refine ⟨rfl, rfl, rfl, ?_, fun b hb => ?_⟩
  · show w.heap.size ≤ (w.heap ++ os).size
    simp
  · show (w.heap ++ os)[b]? = _
    rw [Array.getElem?_append_left hb]
theorem Itoa_ok (n : Int) (h : Hp) (h1 : -9223372036854775808 ≤ n) (h2 : n ≤ 9223372036854775807) (he : Env h) : Ct Tryd.prog 42 [I n] h (fun _ v => v = Str (Lib.itoa n)) :=
  Ct.lib fun w hw => Calls.mono (Tryd.strconv_Itoa n h1 h2 w (he.pow w hw)) fun e w' hh => by
    obtain ⟨h3, k, os, h4⟩ := hh
    subst h4
    exact ⟨_, h3, rfl, below_grow' w k os⟩
theorem Print_ok (n : Int) (e : Nat) (h : Hp) (hE : Env h) (he : e ≤ 62) (h1 : -9223372036854775807 ≤ n) (h2 : n ≤ 9223372036854775807) : Ct Tryd.prog 27 [Fr2 n e] h (fun _ v => v = Str (txt n e)) := by
  refine ct27 ?_
  intro w0
  unfold s27
  (repeat (first | refine G.add (by omega) ?_ | refine G.sub (by omega) ?_ | refine G.mul (by omega) ?_ | refine G.neg (by omega) ?_ | refine G.quo (by omega) (by omega) ?_ | refine G.rem (by omega) ?_ | refine G.shr (by omega) ?_ | refine G.conv (by omega) ?_ | refine G.step ?_ | refine G.buildA (by rfl) ?_ | (refine Gs.box ?_; intro _) | (refine Gs.alloc ?_; intro _) | refine Gs.store ?_ | refine G.retc ?_ | refine Gs.dr ?_ | refine G.qadd (by omega) ?_ | refine G.qsub (by omega) ?_ | refine G.qmul (by omega) ?_ | refine G.qkp ?_ | refine Gs.qkb ?_ | refine G.withT ?_ | refine Gs.withb ?_ | refine G.ift ?_ | refine G.iff ?_ | refine G.gdtt ?_ | refine G.gdff ?_ | refine G.gdtf ?_ | refine G.gdft ?_ | (refine G.jk ?_; intro _)))
  refine G.ifd ?_ ?_ <;> intro h0
  · (repeat (first | refine G.add (by omega) ?_ | refine G.sub (by omega) ?_ | refine G.mul (by omega) ?_ | refine G.neg (by omega) ?_ | refine G.quo (by omega) (by omega) ?_ | refine G.rem (by omega) ?_ | refine G.shr (by omega) ?_ | refine G.conv (by omega) ?_ | refine G.step ?_ | refine G.buildA (by rfl) ?_ | (refine Gs.box ?_; intro _) | (refine Gs.alloc ?_; intro _) | refine Gs.store ?_ | refine G.retc ?_ | refine Gs.dr ?_ | refine G.qadd (by omega) ?_ | refine G.qsub (by omega) ?_ | refine G.qmul (by omega) ?_ | refine G.qkp ?_ | refine Gs.qkb ?_ | refine G.withT ?_ | refine Gs.withb ?_ | refine G.ift ?_ | refine G.iff ?_ | refine G.gdtt ?_ | refine G.gdff ?_ | refine G.gdtf ?_ | refine G.gdft ?_ | (refine G.jk ?_; intro _)))
    refine Gs.callv0 (Itoa_ok n h (by omega) h2 hE) ?_
    exact Gs.ret (by unfold txt; rw [if_pos (by omega)])
  · have hp := two_pow_pos e
    have hb : (2 : Int) ^ e ≤ 4611686018427387904 := by have := two_pow_le he; simpa using this
    have hl1 := Lib.itoa_length_le n (by omega) (by omega)
    have hl2 := Lib.itoa_length_le (2 ^ e) (by omega) (by omega)
    haveI := Yd.shl (P := Tryd.prog) (S := TrueC) (t := 3) (yk := .i64) (a := 1) (y := (e : Int)) ⟨by omega, by omega⟩ (by rw [Int.toNat_natCast]; omega)
    (repeat (first | refine G.add (by omega) ?_ | refine G.sub (by omega) ?_ | refine G.mul (by omega) ?_ | refine G.neg (by omega) ?_ | refine G.quo (by omega) (by omega) ?_ | refine G.rem (by omega) ?_ | refine G.shr (by omega) ?_ | refine G.conv (by omega) ?_ | refine G.step ?_ | refine G.buildA (by rfl) ?_ | (refine Gs.box ?_; intro _) | (refine Gs.alloc ?_; intro _) | refine Gs.store ?_ | refine G.retc ?_ | refine Gs.dr ?_ | refine G.qadd (by omega) ?_ | refine G.qsub (by omega) ?_ | refine G.qmul (by omega) ?_ | refine G.qkp ?_ | refine Gs.qkb ?_ | refine G.withT ?_ | refine Gs.withb ?_ | refine G.ift ?_ | refine G.iff ?_ | refine G.gdtt ?_ | refine G.gdff ?_ | refine G.gdtf ?_ | refine G.gdft ?_ | (refine G.jk ?_; intro _)))
    rw [Int.toNat_natCast, Int.one_mul]
    refine Gs.callv0 (Itoa_ok n h (by omega) h2 hE) ?_
    (repeat (first | refine G.add (by omega) ?_ | refine G.sub (by omega) ?_ | refine G.mul (by omega) ?_ | refine G.neg (by omega) ?_ | refine G.quo (by omega) (by omega) ?_ | refine G.rem (by omega) ?_ | refine G.shr (by omega) ?_ | refine G.conv (by omega) ?_ | refine G.step ?_ | refine G.buildA (by rfl) ?_ | (refine Gs.box ?_; intro _) | (refine Gs.alloc ?_; intro _) | refine Gs.store ?_ | refine G.retc ?_ | refine Gs.dr ?_ | refine G.qadd (by omega) ?_ | refine G.qsub (by omega) ?_ | refine G.qmul (by omega) ?_ | refine G.qkp ?_ | refine Gs.qkb ?_ | refine G.withT ?_ | refine Gs.withb ?_ | refine G.ift ?_ | refine G.iff ?_ | refine G.gdtt ?_ | refine G.gdff ?_ | refine G.gdtf ?_ | refine G.gdft ?_ | (refine G.jk ?_; intro _)))
    refine G.qsadd (b := [47]) (by simp; omega) ?_
    refine Gs.callv0 (Itoa_ok (2 ^ e) h (by omega) (by omega) hE) ?_
    (repeat (first | refine G.add (by omega) ?_ | refine G.sub (by omega) ?_ | refine G.mul (by omega) ?_ | refine G.neg (by omega) ?_ | refine G.quo (by omega) (by omega) ?_ | refine G.rem (by omega) ?_ | refine G.shr (by omega) ?_ | refine G.conv (by omega) ?_ | refine G.step ?_ | refine G.buildA (by rfl) ?_ | (refine Gs.box ?_; intro _) | (refine Gs.alloc ?_; intro _) | refine Gs.store ?_ | refine G.retc ?_ | refine Gs.dr ?_ | refine G.qadd (by omega) ?_ | refine G.qsub (by omega) ?_ | refine G.qmul (by omega) ?_ | refine G.qkp ?_ | refine Gs.qkb ?_ | refine G.withT ?_ | refine Gs.withb ?_ | refine G.ift ?_ | refine G.iff ?_ | refine G.gdtt ?_ | refine G.gdff ?_ | refine G.gdtf ?_ | refine G.gdft ?_ | (refine G.jk ?_; intro _)))
    refine G.qsadd (by simp; omega) ?_
    exact Gs.ret (by unfold txt; rw [if_neg (by omega)])
end Go.Proofs.YtcapijkioaocmaaDoor
end

section
set_option linter.unusedVariables false
set_option maxHeartbeats 1000000
namespace Go.Proofs.YtcapijkioaocmaaDoor
open Go Go.Sk Go.Dy
theorem pU_append : ∀ (a b : List UInt8) (acc v : Nat), Lib.parseUint10 acc a = .ok v → Lib.parseUint10 acc (a ++ b) = Lib.parseUint10 v b
  | [], b, acc, v, h => by
    simp only [Lib.parseUint10] at h
    injection h with h
    subst h; rfl
  | c :: a, b, acc, v, h => by
    show Lib.parseUint10 acc (c :: (a ++ b)) = _
    simp only [Lib.parseUint10] at h ⊢
    split at h
    · rename_i h1
      rw [if_pos h1]
      split at h
      · cases h
      · rename_i h2
        rw [if_neg h2]
        split at h
        · cases h
        · rename_i h3
          rw [if_neg h3]
          exact pU_append a b _ v h
    · cases h
theorem pU_one (acc u : Nat) (hu : u < 10) (ha : acc < 1000000000000000000) : Lib.parseUint10 acc [UInt8.ofNat (48 + u)] = .ok (acc * 10 + u) := by
  have h1 : (UInt8.ofNat (48 + u)).toNat = 48 + u := by rw [UInt8.toNat_ofNat']; omega
  simp only [Lib.parseUint10, h1]
  rw [if_pos (by omega), if_neg (by omega), if_neg (by omega)]
  congr 1
  omega
theorem pU_dec (u : Nat) (hu : u < 1000000000000000000) : Lib.parseUint10 0 (Lib.decDigits u) = .ok u := by
  induction u using Nat.strongRecOn with
  | ind u ih =>
    by_cases h : u < 10
    · rw [Lib.decDigits_one h, pU_one 0 u h (by omega)]
      congr 1; omega
    · rw [dec_step u h, pU_append _ _ _ _ (ih (u / 10) (by omega) (by omega)), pU_one _ _ (by omega) (by omega)]
      congr 1; omega
theorem atoi_itoa (n : Int) (h1 : -1000000000000000000 < n) (h2 : n < 1000000000000000000) : Lib.atoiAll (Lib.itoa n) = .ok n := by
  unfold Lib.itoa
  split
  · simp only [Lib.atoiAll]
    have e : Lib.parseMag (Lib.decDigits n.natAbs) = .ok n.natAbs := by
      unfold Lib.parseMag
      rw [if_neg (dec_ne _)]
      exact pU_dec _ (by omega)
    simp only [show ((45 : UInt8).toNat = 45) from rfl, or_true, if_true, e, not_true, false_and, if_false, true_and]
    rw [if_neg (by omega)]
    congr 1
    omega
  · have e : Lib.parseMag (Lib.decDigits n.toNat) = .ok n.toNat := by
      unfold Lib.parseMag
      rw [if_neg (dec_ne _)]
      exact pU_dec _ (by omega)
    have hd := dec_dgt n.toNat
    cases hD : Lib.decDigits n.toNat with
    | nil => exact absurd hD (dec_ne _)
    | cons c r =>
      rw [hD] at e
      have hc := hd c (by rw [hD]; simp)
      unfold dgt at hc
      simp only [Lib.atoiAll]
      rw [if_neg (by omega), e]
      dsimp only
      rw [if_neg (by omega), if_neg (by omega), if_neg (by omega)]
      congr 1
      omega
theorem iB_gap : ∀ (a b : List UInt8), (∀ c ∈ a, c ≠ 47) → Lib.indexByte (a ++ [47] ++ b) 47 = a.length
  | [], b, _ => rfl
  | c :: a, b, h => by
    have hc := h c (by simp)
    have ih := iB_gap a b (fun c hc => h c (by simp [hc]))
    show Lib.indexByte (c :: (a ++ [47] ++ b)) 47 = _
    simp only [Lib.indexByte, ih]
    rw [if_neg (by simpa using hc), if_neg (by simp)]
    simp
theorem iB_none : ∀ (a : List UInt8), (∀ c ∈ a, c ≠ 47) → Lib.indexByte a 47 = -1
  | [], _ => rfl
  | c :: a, h => by
    have hc := h c (by simp)
    have ih := iB_none a (fun c hc => h c (by simp [hc]))
    simp only [Lib.indexByte, ih]
    rw [if_neg (by simpa using hc)]
    rfl
theorem cut_txt (n : Int) (e : Nat) : Lib.cut (txt n e) [47] = if e = 0 then (Lib.itoa n, [], false) else (Lib.itoa n, Lib.itoa (2 ^ e), true) := by
  unfold Lib.cut txt
  rw [Lib.index_one]
  split
  · rw [iB_none _ (itoa_ne n)]; rfl
  · rw [iB_gap _ _ (itoa_ne n), if_pos (by omega)]
    simp
end Go.Proofs.YtcapijkioaocmaaDoor
end

section
set_option linter.unusedVariables false
set_option maxHeartbeats 4000000
namespace Go.Proofs.YtcapijkioaocmaaDoor
open Go Go.Sk Go.Dy Go.RowKit
theorem Cut_ok (l : List UInt8) (h : Hp) (hE : Env h) (hl : l.length < 4294967281) : Ct Tryd.prog 45 [Str l, Str [47]] h (fun _ v => v = .tuple #[Str (Lib.cut l [47]).1, Str (Lib.cut l [47]).2.1, .bool (Lib.cut l [47]).2.2]) := by
  obtain ⟨m, hm⟩ := hE.mx
  exact Ct.lib fun w hw => Calls.mono (Tryd.strings_Cut ⟨l.toArray⟩ ⟨#[47]⟩ m w (by simpa [ByteArray.size] using hl) (hm w hw)) fun e w' hh => by
    obtain ⟨h1, n, h2⟩ := hh
    subst h2
    exact ⟨_, h1, rfl, ⟨rfl, rfl, rfl, Nat.le_refl _, fun _ _ => rfl⟩⟩
/-- How Atoi ends. -/
def AtoiR (l : List UInt8) (v : Value) : Prop := ∃ n err, v = .tuple #[I n, err] ∧ -9223372036854775808 ≤ n ∧ n ≤ 9223372036854775807 ∧ ((err = .nilIface ∧ Lib.atoiAll l = .ok n) ∨ ((∃ N, err = .iface 89 (.pointer (some ⟨N, 0, none⟩))) ∧ ∀ m, Lib.atoiAll l ≠ .ok m))
theorem Atoi_ok (l : List UInt8) (h : Hp) (hE : Env h) (hl : l.length ≤ 4294967281) : Ct Tryd.prog 46 [Str l] h (fun _ v => AtoiR l v) := by
  obtain ⟨ts, ps, hs⟩ := hE.esyn
  obtain ⟨tr, pr, hr⟩ := hE.eran
  have hsz : (⟨l.toArray⟩ : ByteArray).size = l.length := by simp [ByteArray.size]
  refine Ct.lib fun w hw => ?_
  cases hA : Lib.atoiAll l
  · rename_i v
    refine Calls.mono (Any.strconv_Atoi_ok Tryd.laysC172 ⟨l.toArray⟩ (by omega) v hA w) fun e w' hh => ?_
    obtain ⟨h1, h2⟩ := hh
    have hb := Lib.atoiAll_bounds hA
    refine ⟨_, h1, ⟨v, .nilIface, rfl, hb.1, hb.2, .inl ⟨rfl, hA⟩⟩, ?_⟩
    rcases h2 with h2 | ⟨t, h2⟩
    · subst h2; exact Below.refl _ _
    · subst h2; exact Joins.below_bytesWorld _ w 5 t (Nat.le_refl _)
  · refine Calls.mono (Any.strconv_Atoi_syntax_var Tryd.laysC172 ⟨l.toArray⟩ (by omega) hA ts ps w (hs w hw)) fun e w' hh => ?_
    obtain ⟨N, h1, _, _, h2⟩ := hh
    exact ⟨_, h1, ⟨0, _, rfl, by decide, by decide, .inr ⟨⟨N, rfl⟩, fun m hm => by rw [hA] at hm; cases hm⟩⟩, h2⟩
  · refine Calls.mono (Any.strconv_Atoi_range_var Tryd.laysC172 ⟨l.toArray⟩ (by omega) hA tr pr w (hr w hw)) fun e w' hh => ?_
    obtain ⟨N, h1, _, _, h2⟩ := hh
    have hb := Lib.atoiSat_bounds l
    exact ⟨_, h1, ⟨_, _, rfl, hb.1, hb.2, .inr ⟨⟨N, rfl⟩, fun m hm => by rw [hA] at hm; cases hm⟩⟩, h2⟩
end Go.Proofs.YtcapijkioaocmaaDoor
end

section
set_option linter.unusedVariables false
set_option maxHeartbeats 4000000
namespace Go.Proofs.YtcapijkioaocmaaDoor
open Go Go.Sk Go.Dy Go.RowKit
instance : TIface Tryd.prog 68 := ⟨by kernel_rfl⟩
theorem tz_pow (e : Nat) (he : e ≤ 30) : tz (2 ^ e) = e := by
  have hp := two_pow_pos e
  have hb : (2 : Int) ^ e ≤ 2 ^ 30 := two_pow_le he
  have h30 : (2 : Int) ^ 30 = 1073741824 := by decide
  obtain ⟨o, h1, h2, h3⟩ := tz_spec (2 ^ e) (by omega) (by omega) (by omega)
  exact pow_odd _ e o h1.symm h2
theorem swar_wrap_pow (e : Nat) (he : e ≤ 30) : swar (IntKind.u64.wrap (2 ^ e)) = 1 := by
  have hp := two_pow_pos e
  have hb : (2 : Int) ^ e ≤ 2 ^ 30 := two_pow_le he
  have h30 : (2 : Int) ^ 30 = 1073741824 := by decide
  rw [u64wrap]
  have : (((2 : Int) ^ e % 18446744073709551616).toNat : Int) = 2 ^ e := by omega
  rw [this]
  exact swar_pow e he
theorem tz_bd (n : Int) (h0 : n ≠ 0) (h1 : -9223372036854775808 ≤ n) (h2 : n ≤ 9223372036854775807) : tz n < 64 := by
  obtain ⟨o, _, _, h3⟩ := tz_spec n h0 h1 h2
  exact h3
theorem cut_len (l : List UInt8) : (Lib.cut l [47]).1.length ≤ l.length ∧ (Lib.cut l [47]).2.1.length ≤ l.length := by
  unfold Lib.cut
  split
  · simp; omega
  · simp
attribute [local irreducible] txt Lib.cut Lib.atoiAll
theorem Parse_ok (l : List UInt8) (h : Hp) (hl : l.length ≤ 4294967000) (hE : Env h) : Ct Tryd.prog 29 [Str l] h (fun _ v => v = Two (parseS l)) := by
  refine ct29 ?_
  intro w0
  unfold s29
  have hcl := cut_len l
  have hcomp : ∀ n e, Valid n e → txt n e = l → Lib.cut l [47] = if e = 0 then (Lib.itoa n, [], false) else (Lib.itoa n, Lib.itoa (2 ^ e), true) := by
    rintro n e _ rfl
    exact cut_txt n e
  have hat : ∀ n e, Valid n e → Lib.atoiAll (Lib.itoa n) = .ok n ∧ Lib.atoiAll (Lib.itoa (2 ^ e)) = .ok (2 ^ e) := by
    intro n e hv
    obtain ⟨h1, h2, h3, _⟩ := hv
    have hp := two_pow_pos e
    have hb : (2 : Int) ^ e ≤ 2 ^ 30 := two_pow_le h1
    have h30 : (2 : Int) ^ 30 = 1073741824 := by decide
    exact ⟨atoi_itoa n (by omega) (by omega), atoi_itoa _ (by omega) (by omega)⟩
  (repeat (first | refine G.add (by omega) ?_ | refine G.sub (by omega) ?_ | refine G.mul (by omega) ?_ | refine G.neg (by omega) ?_ | refine G.quo (by omega) (by omega) ?_ | refine G.rem (by omega) ?_ | refine G.shr (by omega) ?_ | refine G.conv (by omega) ?_ | refine G.step ?_ | refine G.buildA (by rfl) ?_ | (refine Gs.box ?_; intro _) | (refine Gs.alloc ?_; intro _) | refine Gs.store ?_ | refine G.retc ?_ | refine Gs.dr ?_ | refine G.qadd (by omega) ?_ | refine G.qsub (by omega) ?_ | refine G.qmul (by omega) ?_ | refine G.qkp ?_ | refine Gs.qkb ?_ | refine G.withT ?_ | refine Gs.withb ?_ | refine G.ift ?_ | refine G.iff ?_ | refine G.gdtt ?_ | refine G.gdff ?_ | refine G.gdtf ?_ | refine G.gdft ?_ | (refine G.jk ?_; intro _)))
  rename_i b1
  refine Gs.callv0 (Cut_ok l h hE (by omega)) ?_
  generalize Lib.cut l [47] = c at *
  obtain ⟨top, bot, ok⟩ := c
  dsimp only at *
  (repeat (first | refine G.add (by omega) ?_ | refine G.sub (by omega) ?_ | refine G.mul (by omega) ?_ | refine G.neg (by omega) ?_ | refine G.quo (by omega) (by omega) ?_ | refine G.rem (by omega) ?_ | refine G.shr (by omega) ?_ | refine G.conv (by omega) ?_ | refine G.step ?_ | refine G.buildA (by rfl) ?_ | (refine Gs.box ?_; intro _) | (refine Gs.alloc ?_; intro _) | refine Gs.store ?_ | refine G.retc ?_ | refine Gs.dr ?_ | refine G.qadd (by omega) ?_ | refine G.qsub (by omega) ?_ | refine G.qmul (by omega) ?_ | refine G.qkp ?_ | refine Gs.qkb ?_ | refine G.withT ?_ | refine Gs.withb ?_ | refine G.ift ?_ | refine G.iff ?_ | refine G.gdtt ?_ | refine G.gdff ?_ | refine G.gdtf ?_ | refine G.gdft ?_ | (refine G.jk ?_; intro _)))
  refine Gs.call0 (Atoi_ok top h hE (by omega)) ?_
  rintro _ h1 hle1 ⟨n, err, rfl, hn1, hn2, hA⟩
  have hE1 := hE.mono hle1
  (repeat (first | refine G.add (by omega) ?_ | refine G.sub (by omega) ?_ | refine G.mul (by omega) ?_ | refine G.neg (by omega) ?_ | refine G.quo (by omega) (by omega) ?_ | refine G.rem (by omega) ?_ | refine G.shr (by omega) ?_ | refine G.conv (by omega) ?_ | refine G.step ?_ | refine G.buildA (by rfl) ?_ | (refine Gs.box ?_; intro _) | (refine Gs.alloc ?_; intro _) | refine Gs.store ?_ | refine G.retc ?_ | refine Gs.dr ?_ | refine G.qadd (by omega) ?_ | refine G.qsub (by omega) ?_ | refine G.qmul (by omega) ?_ | refine G.qkp ?_ | refine Gs.qkb ?_ | refine G.withT ?_ | refine Gs.withb ?_ | refine G.ift ?_ | refine G.iff ?_ | refine G.gdtt ?_ | refine G.gdff ?_ | refine G.gdtf ?_ | refine G.gdft ?_ | (refine G.jk ?_; intro _)))
  rename_i b2
  refine G.jnk (fun _ S' => ∃ (x : Nat) (h' : Hp), (∀ n' e', Valid n' e' → txt n' e' = l → err = .nilIface ∧ n' = n ∧ e' = x) ∧ Hle h h' ∧ S' = St w0 h h' [.blk b2 [I n, I x] 27, .blk b1 [I 0, I 0] 27]) ?_ ?_
  · rintro a S' ⟨x, h', hc, hle, rfl⟩
    have hno : ¬ (err = .nilIface ∧ Valid n x ∧ txt n x = l) → parseS l = (0, 0, 3) := fun hh => parseS_no l (fun n' e' hv ht => by
      obtain ⟨q1, rfl, rfl⟩ := hc n' e' hv ht
      exact hh ⟨q1, hv, ht⟩)
    have hE' := hE.mono hle
    refine G.jk ?_
    intro _
    refine G.jn ?_
    rcases hA with ⟨rfl, hA⟩ | ⟨⟨N, rfl⟩, hA⟩
    · (repeat (first | refine G.add (by omega) ?_ | refine G.sub (by omega) ?_ | refine G.mul (by omega) ?_ | refine G.neg (by omega) ?_ | refine G.quo (by omega) (by omega) ?_ | refine G.rem (by omega) ?_ | refine G.shr (by omega) ?_ | refine G.conv (by omega) ?_ | refine G.step ?_ | refine G.buildA (by rfl) ?_ | (refine Gs.box ?_; intro _) | (refine Gs.alloc ?_; intro _) | refine Gs.store ?_ | refine G.retc ?_ | refine Gs.dr ?_ | refine G.qadd (by omega) ?_ | refine G.qsub (by omega) ?_ | refine G.qmul (by omega) ?_ | refine G.qkp ?_ | refine Gs.qkb ?_ | refine G.withT ?_ | refine Gs.withb ?_ | refine G.ift ?_ | refine G.iff ?_ | refine G.gdtt ?_ | refine G.gdff ?_ | refine G.gdtf ?_ | refine G.gdft ?_ | (refine G.jk ?_; intro _)))
      refine Gs.callv0 (valid_ok n x h') ?_
      cases hv : validB n x
      · (repeat (first | refine G.add (by omega) ?_ | refine G.sub (by omega) ?_ | refine G.mul (by omega) ?_ | refine G.neg (by omega) ?_ | refine G.quo (by omega) (by omega) ?_ | refine G.rem (by omega) ?_ | refine G.shr (by omega) ?_ | refine G.conv (by omega) ?_ | refine G.step ?_ | refine G.buildA (by rfl) ?_ | (refine Gs.box ?_; intro _) | (refine Gs.alloc ?_; intro _) | refine Gs.store ?_ | refine G.retc ?_ | refine Gs.dr ?_ | refine G.qadd (by omega) ?_ | refine G.qsub (by omega) ?_ | refine G.qmul (by omega) ?_ | refine G.qkp ?_ | refine Gs.qkb ?_ | refine G.withT ?_ | refine Gs.withb ?_ | refine G.ift ?_ | refine G.iff ?_ | refine G.gdtt ?_ | refine G.gdff ?_ | refine G.gdtf ?_ | refine G.gdft ?_ | (refine G.jk ?_; intro _)))
        refine Gs.ret ?_
        rw [hno (fun hh => by rw [(validB_iff _ _).2 hh.2.1] at hv; cases hv)]
      · have hV := (validB_iff _ _).1 hv
        have hx := hV.1
        have hx1 := hV.2.1
        have hx2 := hV.2.2.1
        (repeat (first | refine G.add (by omega) ?_ | refine G.sub (by omega) ?_ | refine G.mul (by omega) ?_ | refine G.neg (by omega) ?_ | refine G.quo (by omega) (by omega) ?_ | refine G.rem (by omega) ?_ | refine G.shr (by omega) ?_ | refine G.conv (by omega) ?_ | refine G.step ?_ | refine G.buildA (by rfl) ?_ | (refine Gs.box ?_; intro _) | (refine Gs.alloc ?_; intro _) | refine Gs.store ?_ | refine G.retc ?_ | refine Gs.dr ?_ | refine G.qadd (by omega) ?_ | refine G.qsub (by omega) ?_ | refine G.qmul (by omega) ?_ | refine G.qkp ?_ | refine Gs.qkb ?_ | refine G.withT ?_ | refine Gs.withb ?_ | refine G.ift ?_ | refine G.iff ?_ | refine G.gdtt ?_ | refine G.gdff ?_ | refine G.gdtf ?_ | refine G.gdft ?_ | (refine G.jk ?_; intro _)))
        refine Gs.callv0 (Print_ok n x h' hE' (by omega) (by omega) (by omega)) ?_
        (repeat (first | refine G.add (by omega) ?_ | refine G.sub (by omega) ?_ | refine G.mul (by omega) ?_ | refine G.neg (by omega) ?_ | refine G.quo (by omega) (by omega) ?_ | refine G.rem (by omega) ?_ | refine G.shr (by omega) ?_ | refine G.conv (by omega) ?_ | refine G.step ?_ | refine G.buildA (by rfl) ?_ | (refine Gs.box ?_; intro _) | (refine Gs.alloc ?_; intro _) | refine Gs.store ?_ | refine G.retc ?_ | refine Gs.dr ?_ | refine G.qadd (by omega) ?_ | refine G.qsub (by omega) ?_ | refine G.qmul (by omega) ?_ | refine G.qkp ?_ | refine Gs.qkb ?_ | refine G.withT ?_ | refine Gs.withb ?_ | refine G.ift ?_ | refine G.iff ?_ | refine G.gdtt ?_ | refine G.gdff ?_ | refine G.gdtf ?_ | refine G.gdft ?_ | (refine G.jk ?_; intro _)))
        refine G.ifd ?_ ?_ <;> intro hne
        · (repeat (first | refine G.add (by omega) ?_ | refine G.sub (by omega) ?_ | refine G.mul (by omega) ?_ | refine G.neg (by omega) ?_ | refine G.quo (by omega) (by omega) ?_ | refine G.rem (by omega) ?_ | refine G.shr (by omega) ?_ | refine G.conv (by omega) ?_ | refine G.step ?_ | refine G.buildA (by rfl) ?_ | (refine Gs.box ?_; intro _) | (refine Gs.alloc ?_; intro _) | refine Gs.store ?_ | refine G.retc ?_ | refine Gs.dr ?_ | refine G.qadd (by omega) ?_ | refine G.qsub (by omega) ?_ | refine G.qmul (by omega) ?_ | refine G.qkp ?_ | refine Gs.qkb ?_ | refine G.withT ?_ | refine Gs.withb ?_ | refine G.ift ?_ | refine G.iff ?_ | refine G.gdtt ?_ | refine G.gdff ?_ | refine G.gdtf ?_ | refine G.gdft ?_ | (refine G.jk ?_; intro _)))
          refine Gs.ret ?_
          rw [hno (fun hh => hne hh.2.2)]
        · (repeat (first | refine G.add (by omega) ?_ | refine G.sub (by omega) ?_ | refine G.mul (by omega) ?_ | refine G.neg (by omega) ?_ | refine G.quo (by omega) (by omega) ?_ | refine G.rem (by omega) ?_ | refine G.shr (by omega) ?_ | refine G.conv (by omega) ?_ | refine G.step ?_ | refine G.buildA (by rfl) ?_ | (refine Gs.box ?_; intro _) | (refine Gs.alloc ?_; intro _) | refine Gs.store ?_ | refine G.retc ?_ | refine Gs.dr ?_ | refine G.qadd (by omega) ?_ | refine G.qsub (by omega) ?_ | refine G.qmul (by omega) ?_ | refine G.qkp ?_ | refine Gs.qkb ?_ | refine G.withT ?_ | refine Gs.withb ?_ | refine G.ift ?_ | refine G.iff ?_ | refine G.gdtt ?_ | refine G.gdff ?_ | refine G.gdtf ?_ | refine G.gdft ?_ | (refine G.jk ?_; intro _)))
          have he : txt n x = l := Classical.byContradiction fun hh => hne hh
          refine Gs.ret ?_
          rw [← he, parseS_txt n x hV]
    · (repeat (first | refine G.add (by omega) ?_ | refine G.sub (by omega) ?_ | refine G.mul (by omega) ?_ | refine G.neg (by omega) ?_ | refine G.quo (by omega) (by omega) ?_ | refine G.rem (by omega) ?_ | refine G.shr (by omega) ?_ | refine G.conv (by omega) ?_ | refine G.step ?_ | refine G.buildA (by rfl) ?_ | (refine Gs.box ?_; intro _) | (refine Gs.alloc ?_; intro _) | refine Gs.store ?_ | refine G.retc ?_ | refine Gs.dr ?_ | refine G.qadd (by omega) ?_ | refine G.qsub (by omega) ?_ | refine G.qmul (by omega) ?_ | refine G.qkp ?_ | refine Gs.qkb ?_ | refine G.withT ?_ | refine Gs.withb ?_ | refine G.ift ?_ | refine G.iff ?_ | refine G.gdtt ?_ | refine G.gdff ?_ | refine G.gdtf ?_ | refine G.gdft ?_ | (refine G.jk ?_; intro _)))
      refine Gs.ret ?_
      rw [hno (fun hh => by cases hh.1)]
  · intro K hK
    have htop : ∀ n' e', Valid n' e' → top = Lib.itoa n' → err = .nilIface ∧ n' = n := by
      intro n' e' hv ht
      have h2 := (hat n' e' hv).1
      rw [← ht] at h2
      rcases hA with ⟨rfl, hA⟩ | ⟨_, hA⟩
      · rw [hA] at h2
        injection h2 with h2
        exact ⟨rfl, h2.symm⟩
      · exact absurd h2 (hA n')
    cases ok
    · (repeat (first | refine G.add (by omega) ?_ | refine G.sub (by omega) ?_ | refine G.mul (by omega) ?_ | refine G.neg (by omega) ?_ | refine G.quo (by omega) (by omega) ?_ | refine G.rem (by omega) ?_ | refine G.shr (by omega) ?_ | refine G.conv (by omega) ?_ | refine G.step ?_ | refine G.buildA (by rfl) ?_ | (refine Gs.box ?_; intro _) | (refine Gs.alloc ?_; intro _) | refine Gs.store ?_ | refine G.retc ?_ | refine Gs.dr ?_ | refine G.qadd (by omega) ?_ | refine G.qsub (by omega) ?_ | refine G.qmul (by omega) ?_ | refine G.qkp ?_ | refine Gs.qkb ?_ | refine G.withT ?_ | refine Gs.withb ?_ | refine G.ift ?_ | refine G.iff ?_ | refine G.gdtt ?_ | refine G.gdff ?_ | refine G.gdtf ?_ | refine G.gdft ?_ | (refine G.jk ?_; intro _)))
      refine hK _ _ ⟨0, h1, ?_, hle1, rfl⟩
      intro n' e' hv ht
      have h2 := hcomp n' e' hv ht
      split at h2
      · rename_i h3
        simp only [Prod.mk.injEq] at h2
        obtain ⟨q1, q2⟩ := htop n' e' hv h2.1
        exact ⟨q1, q2, h3⟩
      · simp at h2
    · (repeat (first | refine G.add (by omega) ?_ | refine G.sub (by omega) ?_ | refine G.mul (by omega) ?_ | refine G.neg (by omega) ?_ | refine G.quo (by omega) (by omega) ?_ | refine G.rem (by omega) ?_ | refine G.shr (by omega) ?_ | refine G.conv (by omega) ?_ | refine G.step ?_ | refine G.buildA (by rfl) ?_ | (refine Gs.box ?_; intro _) | (refine Gs.alloc ?_; intro _) | refine Gs.store ?_ | refine G.retc ?_ | refine Gs.dr ?_ | refine G.qadd (by omega) ?_ | refine G.qsub (by omega) ?_ | refine G.qmul (by omega) ?_ | refine G.qkp ?_ | refine Gs.qkb ?_ | refine G.withT ?_ | refine Gs.withb ?_ | refine G.ift ?_ | refine G.iff ?_ | refine G.gdtt ?_ | refine G.gdff ?_ | refine G.gdtf ?_ | refine G.gdft ?_ | (refine G.jk ?_; intro _)))
      refine Gs.call0 (Atoi_ok bot h1 hE1 (by omega)) ?_
      rintro _ h2 hle2 ⟨p, err2, rfl, hp1, hp2, hB⟩
      have hE2 := hE1.mono hle2
      have hbot : ∀ n' e', Valid n' e' → txt n' e' = l → (err = .nilIface ∧ n' = n) ∧ Lib.atoiAll bot = .ok (2 ^ e') ∧ e' ≤ 30 := by
        intro n' e' hv ht
        have h3 := hcomp n' e' hv ht
        split at h3
        · simp at h3
        · simp only [Prod.mk.injEq] at h3
          refine ⟨htop n' e' hv h3.1, ?_, hv.1⟩
          rw [h3.2.1]
          exact (hat n' e' hv).2
      (repeat (first | refine G.add (by omega) ?_ | refine G.sub (by omega) ?_ | refine G.mul (by omega) ?_ | refine G.neg (by omega) ?_ | refine G.quo (by omega) (by omega) ?_ | refine G.rem (by omega) ?_ | refine G.shr (by omega) ?_ | refine G.conv (by omega) ?_ | refine G.step ?_ | refine G.buildA (by rfl) ?_ | (refine Gs.box ?_; intro _) | (refine Gs.alloc ?_; intro _) | refine Gs.store ?_ | refine G.retc ?_ | refine Gs.dr ?_ | refine G.qadd (by omega) ?_ | refine G.qsub (by omega) ?_ | refine G.qmul (by omega) ?_ | refine G.qkp ?_ | refine Gs.qkb ?_ | refine G.withT ?_ | refine Gs.withb ?_ | refine G.ift ?_ | refine G.iff ?_ | refine G.gdtt ?_ | refine G.gdff ?_ | refine G.gdtf ?_ | refine G.gdft ?_ | (refine G.jk ?_; intro _)))
      refine G.jn ?_
      rcases hB with ⟨rfl, hB⟩ | ⟨⟨N, rfl⟩, hB⟩
      · (repeat (first | refine G.add (by omega) ?_ | refine G.sub (by omega) ?_ | refine G.mul (by omega) ?_ | refine G.neg (by omega) ?_ | refine G.quo (by omega) (by omega) ?_ | refine G.rem (by omega) ?_ | refine G.shr (by omega) ?_ | refine G.conv (by omega) ?_ | refine G.step ?_ | refine G.buildA (by rfl) ?_ | (refine Gs.box ?_; intro _) | (refine Gs.alloc ?_; intro _) | refine Gs.store ?_ | refine G.retc ?_ | refine Gs.dr ?_ | refine G.qadd (by omega) ?_ | refine G.qsub (by omega) ?_ | refine G.qmul (by omega) ?_ | refine G.qkp ?_ | refine Gs.qkb ?_ | refine G.withT ?_ | refine Gs.withb ?_ | refine G.ift ?_ | refine G.iff ?_ | refine G.gdtt ?_ | refine G.gdff ?_ | refine G.gdtf ?_ | refine G.gdft ?_ | (refine G.jk ?_; intro _)))
        refine Gs.callv0 (ones_ok _ h2) ?_
        (repeat (first | refine G.add (by omega) ?_ | refine G.sub (by omega) ?_ | refine G.mul (by omega) ?_ | refine G.neg (by omega) ?_ | refine G.quo (by omega) (by omega) ?_ | refine G.rem (by omega) ?_ | refine G.shr (by omega) ?_ | refine G.conv (by omega) ?_ | refine G.step ?_ | refine G.buildA (by rfl) ?_ | (refine Gs.box ?_; intro _) | (refine Gs.alloc ?_; intro _) | refine Gs.store ?_ | refine G.retc ?_ | refine Gs.dr ?_ | refine G.qadd (by omega) ?_ | refine G.qsub (by omega) ?_ | refine G.qmul (by omega) ?_ | refine G.qkp ?_ | refine Gs.qkb ?_ | refine G.withT ?_ | refine Gs.withb ?_ | refine G.ift ?_ | refine G.iff ?_ | refine G.gdtt ?_ | refine G.gdff ?_ | refine G.gdtf ?_ | refine G.gdft ?_ | (refine G.jk ?_; intro _)))
        have hno : swar (IntKind.u64.wrap p) ≠ 1 → parseS l = (0, 0, 3) := fun hh => parseS_no l (fun n' e' hv ht => by
          obtain ⟨_, h4, h5⟩ := hbot n' e' hv ht
          rw [hB] at h4
          injection h4 with h4
          rw [h4] at hh
          exact hh (swar_wrap_pow e' h5))
        refine G.ifd ?_ ?_ <;> intro hs
        · (repeat (first | refine G.add (by omega) ?_ | refine G.sub (by omega) ?_ | refine G.mul (by omega) ?_ | refine G.neg (by omega) ?_ | refine G.quo (by omega) (by omega) ?_ | refine G.rem (by omega) ?_ | refine G.shr (by omega) ?_ | refine G.conv (by omega) ?_ | refine G.step ?_ | refine G.buildA (by rfl) ?_ | (refine Gs.box ?_; intro _) | (refine Gs.alloc ?_; intro _) | refine Gs.store ?_ | refine G.retc ?_ | refine Gs.dr ?_ | refine G.qadd (by omega) ?_ | refine G.qsub (by omega) ?_ | refine G.qmul (by omega) ?_ | refine G.qkp ?_ | refine Gs.qkb ?_ | refine G.withT ?_ | refine Gs.withb ?_ | refine G.ift ?_ | refine G.iff ?_ | refine G.gdtt ?_ | refine G.gdff ?_ | refine G.gdtf ?_ | refine G.gdft ?_ | (refine G.jk ?_; intro _)))
          refine Gs.ret ?_
          rw [hno hs]
        · have hs : swar (IntKind.u64.wrap p) = 1 := Classical.byContradiction fun hh => hs hh
          have hp0 : p ≠ 0 := fun e => by
            rw [e] at hs
            exact swar_zero hs
          (repeat (first | refine G.add (by omega) ?_ | refine G.sub (by omega) ?_ | refine G.mul (by omega) ?_ | refine G.neg (by omega) ?_ | refine G.quo (by omega) (by omega) ?_ | refine G.rem (by omega) ?_ | refine G.shr (by omega) ?_ | refine G.conv (by omega) ?_ | refine G.step ?_ | refine G.buildA (by rfl) ?_ | (refine Gs.box ?_; intro _) | (refine Gs.alloc ?_; intro _) | refine Gs.store ?_ | refine G.retc ?_ | refine Gs.dr ?_ | refine G.qadd (by omega) ?_ | refine G.qsub (by omega) ?_ | refine G.qmul (by omega) ?_ | refine G.qkp ?_ | refine Gs.qkb ?_ | refine G.withT ?_ | refine Gs.withb ?_ | refine G.ift ?_ | refine G.iff ?_ | refine G.gdtt ?_ | refine G.gdff ?_ | refine G.gdtf ?_ | refine G.gdft ?_ | (refine G.jk ?_; intro _)))
          refine Gs.callv0 (tzn_ok p h2 hp0 hp1 hp2 hE2.tz) ?_
          (repeat (first | refine G.add (by omega) ?_ | refine G.sub (by omega) ?_ | refine G.mul (by omega) ?_ | refine G.neg (by omega) ?_ | refine G.quo (by omega) (by omega) ?_ | refine G.rem (by omega) ?_ | refine G.shr (by omega) ?_ | refine G.conv (by omega) ?_ | refine G.step ?_ | refine G.buildA (by rfl) ?_ | (refine Gs.box ?_; intro _) | (refine Gs.alloc ?_; intro _) | refine Gs.store ?_ | refine G.retc ?_ | refine Gs.dr ?_ | refine G.qadd (by omega) ?_ | refine G.qsub (by omega) ?_ | refine G.qmul (by omega) ?_ | refine G.qkp ?_ | refine Gs.qkb ?_ | refine G.withT ?_ | refine Gs.withb ?_ | refine G.ift ?_ | refine G.iff ?_ | refine G.gdtt ?_ | refine G.gdff ?_ | refine G.gdtf ?_ | refine G.gdft ?_ | (refine G.jk ?_; intro _)))
          refine hK _ _ ⟨tz p, h2, ?_, hle1.trans hle2, rfl⟩
          intro n' e' hv ht
          obtain ⟨⟨q1, q2⟩, h4, h5⟩ := hbot n' e' hv ht
          rw [hB] at h4
          injection h4 with h4
          exact ⟨q1, q2, by rw [h4, tz_pow e' h5]⟩
      · (repeat (first | refine G.add (by omega) ?_ | refine G.sub (by omega) ?_ | refine G.mul (by omega) ?_ | refine G.neg (by omega) ?_ | refine G.quo (by omega) (by omega) ?_ | refine G.rem (by omega) ?_ | refine G.shr (by omega) ?_ | refine G.conv (by omega) ?_ | refine G.step ?_ | refine G.buildA (by rfl) ?_ | (refine Gs.box ?_; intro _) | (refine Gs.alloc ?_; intro _) | refine Gs.store ?_ | refine G.retc ?_ | refine Gs.dr ?_ | refine G.qadd (by omega) ?_ | refine G.qsub (by omega) ?_ | refine G.qmul (by omega) ?_ | refine G.qkp ?_ | refine Gs.qkb ?_ | refine G.withT ?_ | refine Gs.withb ?_ | refine G.ift ?_ | refine G.iff ?_ | refine G.gdtt ?_ | refine G.gdff ?_ | refine G.gdtf ?_ | refine G.gdft ?_ | (refine G.jk ?_; intro _)))
        refine Gs.ret ?_
        rw [parseS_no l (fun n' e' hv ht => hB _ (hbot n' e' hv ht).2.1)]
end Go.Proofs.YtcapijkioaocmaaDoor
end

section
set_option linter.unusedVariables false
set_option maxHeartbeats 4000000
namespace Go.Proofs.YtcapijkioaocmaaDoor
open Go Go.Sk Go.Dy Go.RowKit
theorem itoa_d (n : Nat) (h : n < 10) : Lib.itoa (n : Int) = [UInt8.ofNat (48 + n)] := by rw [Lib.itoa_nonneg, Lib.decDigits_one h]
theorem itoa_nd (n : Nat) (h : n < 10) (h0 : 0 < n) : Lib.itoa (-(n : Int)) = [45, UInt8.ofNat (48 + n)] := by rw [Lib.itoa_neg n (by omega), Lib.decDigits_one h]
theorem txt_m34 : txt (-3) 2 = [45, 51, 47, 52] := by
  unfold txt
  rw [if_neg (by decide), show (-3 : Int) = -((3 : Nat) : Int) from rfl, itoa_nd 3 (by decide) (by decide), show (2 : Int) ^ 2 = ((4 : Nat) : Int) from rfl, itoa_d 4 (by decide)]
  rfl
theorem txt_72 : txt 7 1 = [55, 47, 50] := by
  unfold txt
  rw [if_neg (by decide), show (7 : Int) = ((7 : Nat) : Int) from rfl, itoa_d 7 (by decide), show (2 : Int) ^ 1 = ((2 : Nat) : Int) from rfl, itoa_d 2 (by decide)]
  rfl
theorem txt_0 : txt 0 0 = [48] := by
  unfold txt
  rw [if_pos (by decide), show (0 : Int) = ((0 : Nat) : Int) from rfl, itoa_d 0 (by decide)]
  rfl
theorem no24 : parseS [50, 47, 52] = (0, 0, 3) := parseS_no _ (fun n e hv ht => by
  have h := txt_read n e hv
  rw [ht] at h
  have h1 : (sgn (sp [50, 47, 52]).1).1 * rdP (sgn (sp [50, 47, 52]).1).2 = 2 := by decide +kernel
  have h2 : rdP (sp [50, 47, 52]).2 = 4 := by decide +kernel
  rw [h1, h2] at h
  have hn : n = 2 := by omega
  have he : e = 2 := by
    have := pow_odd e 2 1 (by rw [Int.one_mul, ← h.2.2]; rfl) rfl
    exact this
  subst hn; subst he
  exact absurd hv.2.2.2 (by decide))
theorem nom0 : parseS [45, 48] = (0, 0, 3) := parseS_no _ (fun n e hv ht => by
  have h := txt_read n e hv
  rw [ht] at h
  have h1 : (sgn (sp [45, 48]).1).1 * rdP (sgn (sp [45, 48]).1).2 = 0 := by decide +kernel
  have h2 : rdP (sp [45, 48]).2 = 1 := by decide +kernel
  rw [h1, h2] at h
  have hn : n = 0 := by omega
  have he : e = 0 := pow_odd e 0 1 (by rw [Int.one_mul, ← h.2.2]; rfl) rfl
  subst hn; subst he
  rw [txt_0] at ht
  cases ht)
theorem no13 : parseS [49, 47, 51] = (0, 0, 3) := parseS_no _ (fun n e hv ht => by
  have h := txt_read n e hv
  rw [ht] at h
  have h2 : rdP (sp [49, 47, 51]).2 = 3 := by decide +kernel
  rw [h2] at h
  cases e with
  | zero => have := h.2.2; simp at this
  | succ e => have := h.2.2; rw [Int.pow_succ] at this; omega)
theorem v_1 (n : Int) (e : Nat) (h : validB n e = true) : Valid n e := (validB_iff n e).1 h
theorem sanity_ok (h : Hp) (hE : Env h) : Ct Tryd.prog 11 [] h (fun _ v => v = .bool true) := by
  refine ct11 ?_
  intro w0
  unfold s11
  (repeat (first | refine G.add (by omega) ?_ | refine G.sub (by omega) ?_ | refine G.mul (by omega) ?_ | refine G.neg (by omega) ?_ | refine G.quo (by omega) (by omega) ?_ | refine G.rem (by omega) ?_ | refine G.shr (by omega) ?_ | refine G.conv (by omega) ?_ | refine G.step ?_ | refine G.buildA (by rfl) ?_ | (refine Gs.box ?_; intro _) | (refine Gs.alloc ?_; intro _) | refine Gs.store ?_ | refine G.retc ?_ | refine Gs.dr ?_ | refine G.qadd (by omega) ?_ | refine G.qsub (by omega) ?_ | refine G.qmul (by omega) ?_ | refine G.qkp ?_ | refine Gs.qkb ?_ | refine G.withT ?_ | refine Gs.withb ?_ | refine G.ift ?_ | refine G.iff ?_ | refine G.gdtt ?_ | refine G.gdff ?_ | refine G.gdtf ?_ | refine G.gdft ?_ | refine G.jn ?_ | (refine G.jk ?_; intro _)))
  refine Gs.callr (args' := [I 6, I 2]) (r' := Two (3, 1, 0)) rfl (by rw [show made 6 2 = (3, 1, 0) by decide +kernel]) (make_ok 6 2 h (by decide) (by decide) hE.tz) ?_
  (repeat (first | refine G.add (by omega) ?_ | refine G.sub (by omega) ?_ | refine G.mul (by omega) ?_ | refine G.neg (by omega) ?_ | refine G.quo (by omega) (by omega) ?_ | refine G.rem (by omega) ?_ | refine G.shr (by omega) ?_ | refine G.conv (by omega) ?_ | refine G.step ?_ | refine G.buildA (by rfl) ?_ | (refine Gs.box ?_; intro _) | (refine Gs.alloc ?_; intro _) | refine Gs.store ?_ | refine G.retc ?_ | refine Gs.dr ?_ | refine G.qadd (by omega) ?_ | refine G.qsub (by omega) ?_ | refine G.qmul (by omega) ?_ | refine G.qkp ?_ | refine Gs.qkb ?_ | refine G.withT ?_ | refine Gs.withb ?_ | refine G.ift ?_ | refine G.iff ?_ | refine G.gdtt ?_ | refine G.gdff ?_ | refine G.gdtf ?_ | refine G.gdft ?_ | (refine G.jk ?_; intro _)))
  refine Gs.callv0 (got_ok 3 1 0 h) ?_
  refine Gs.callv0 (frac_ok 3 1 h) ?_
  (repeat (first | refine G.add (by omega) ?_ | refine G.sub (by omega) ?_ | refine G.mul (by omega) ?_ | refine G.neg (by omega) ?_ | refine G.quo (by omega) (by omega) ?_ | refine G.rem (by omega) ?_ | refine G.shr (by omega) ?_ | refine G.conv (by omega) ?_ | refine G.step ?_ | refine G.buildA (by rfl) ?_ | (refine Gs.box ?_; intro _) | (refine Gs.alloc ?_; intro _) | refine Gs.store ?_ | refine G.retc ?_ | refine Gs.dr ?_ | refine G.qadd (by omega) ?_ | refine G.qsub (by omega) ?_ | refine G.qmul (by omega) ?_ | refine G.qkp ?_ | refine Gs.qkb ?_ | refine G.withT ?_ | refine Gs.withb ?_ | refine G.ift ?_ | refine G.iff ?_ | refine G.gdtt ?_ | refine G.gdff ?_ | refine G.gdtf ?_ | refine G.gdft ?_ | (refine G.jk ?_; intro _)))
  (repeat (first | refine G.add (by omega) ?_ | refine G.sub (by omega) ?_ | refine G.mul (by omega) ?_ | refine G.neg (by omega) ?_ | refine G.quo (by omega) (by omega) ?_ | refine G.rem (by omega) ?_ | refine G.shr (by omega) ?_ | refine G.conv (by omega) ?_ | refine G.step ?_ | refine G.buildA (by rfl) ?_ | (refine Gs.box ?_; intro _) | (refine Gs.alloc ?_; intro _) | refine Gs.store ?_ | refine G.retc ?_ | refine Gs.dr ?_ | refine G.qadd (by omega) ?_ | refine G.qsub (by omega) ?_ | refine G.qmul (by omega) ?_ | refine G.qkp ?_ | refine Gs.qkb ?_ | refine G.withT ?_ | refine Gs.withb ?_ | refine G.ift ?_ | refine G.iff ?_ | refine G.gdtt ?_ | refine G.gdff ?_ | refine G.gdtf ?_ | refine G.gdft ?_ | (refine G.jk ?_; intro _)))
  (repeat (first | refine G.add (by omega) ?_ | refine G.sub (by omega) ?_ | refine G.mul (by omega) ?_ | refine G.neg (by omega) ?_ | refine G.quo (by omega) (by omega) ?_ | refine G.rem (by omega) ?_ | refine G.shr (by omega) ?_ | refine G.conv (by omega) ?_ | refine G.step ?_ | refine G.buildA (by rfl) ?_ | (refine Gs.box ?_; intro _) | (refine Gs.alloc ?_; intro _) | refine Gs.store ?_ | refine G.retc ?_ | refine Gs.dr ?_ | refine G.qadd (by omega) ?_ | refine G.qsub (by omega) ?_ | refine G.qmul (by omega) ?_ | refine G.qkp ?_ | refine Gs.qkb ?_ | refine G.withT ?_ | refine Gs.withb ?_ | refine G.ift ?_ | refine G.iff ?_ | refine G.gdtt ?_ | refine G.gdff ?_ | refine G.gdtf ?_ | refine G.gdft ?_ | (refine G.jk ?_; intro _)))
  refine Gs.callr (args' := [I 3, I 31]) (r' := Two (0, 0, 190)) rfl (by rw [show made 3 31 = (0, 0, 190) by decide +kernel]) (make_ok 3 31 h (by decide) (by decide) hE.tz) ?_
  (repeat (first | refine G.add (by omega) ?_ | refine G.sub (by omega) ?_ | refine G.mul (by omega) ?_ | refine G.neg (by omega) ?_ | refine G.quo (by omega) (by omega) ?_ | refine G.rem (by omega) ?_ | refine G.shr (by omega) ?_ | refine G.conv (by omega) ?_ | refine G.step ?_ | refine G.buildA (by rfl) ?_ | (refine Gs.box ?_; intro _) | (refine Gs.alloc ?_; intro _) | refine Gs.store ?_ | refine G.retc ?_ | refine Gs.dr ?_ | refine G.qadd (by omega) ?_ | refine G.qsub (by omega) ?_ | refine G.qmul (by omega) ?_ | refine G.qkp ?_ | refine Gs.qkb ?_ | refine G.withT ?_ | refine Gs.withb ?_ | refine G.ift ?_ | refine G.iff ?_ | refine G.gdtt ?_ | refine G.gdff ?_ | refine G.gdtf ?_ | refine G.gdft ?_ | (refine G.jk ?_; intro _)))
  refine Gs.callv0 (got_ok 0 0 190 h) ?_
  (repeat (first | refine G.add (by omega) ?_ | refine G.sub (by omega) ?_ | refine G.mul (by omega) ?_ | refine G.neg (by omega) ?_ | refine G.quo (by omega) (by omega) ?_ | refine G.rem (by omega) ?_ | refine G.shr (by omega) ?_ | refine G.conv (by omega) ?_ | refine G.step ?_ | refine G.buildA (by rfl) ?_ | (refine Gs.box ?_; intro _) | (refine Gs.alloc ?_; intro _) | refine Gs.store ?_ | refine G.retc ?_ | refine Gs.dr ?_ | refine G.qadd (by omega) ?_ | refine G.qsub (by omega) ?_ | refine G.qmul (by omega) ?_ | refine G.qkp ?_ | refine Gs.qkb ?_ | refine G.withT ?_ | refine Gs.withb ?_ | refine G.ift ?_ | refine G.iff ?_ | refine G.gdtt ?_ | refine G.gdff ?_ | refine G.gdtf ?_ | refine G.gdft ?_ | (refine G.jk ?_; intro _)))
  (repeat (first | refine G.add (by omega) ?_ | refine G.sub (by omega) ?_ | refine G.mul (by omega) ?_ | refine G.neg (by omega) ?_ | refine G.quo (by omega) (by omega) ?_ | refine G.rem (by omega) ?_ | refine G.shr (by omega) ?_ | refine G.conv (by omega) ?_ | refine G.step ?_ | refine G.buildA (by rfl) ?_ | (refine Gs.box ?_; intro _) | (refine Gs.alloc ?_; intro _) | refine Gs.store ?_ | refine G.retc ?_ | refine Gs.dr ?_ | refine G.qadd (by omega) ?_ | refine G.qsub (by omega) ?_ | refine G.qmul (by omega) ?_ | refine G.qkp ?_ | refine Gs.qkb ?_ | refine G.withT ?_ | refine Gs.withb ?_ | refine G.ift ?_ | refine G.iff ?_ | refine G.gdtt ?_ | refine G.gdff ?_ | refine G.gdtf ?_ | refine G.gdft ?_ | (refine G.jk ?_; intro _)))
  (repeat (first | refine G.add (by omega) ?_ | refine G.sub (by omega) ?_ | refine G.mul (by omega) ?_ | refine G.neg (by omega) ?_ | refine G.quo (by omega) (by omega) ?_ | refine G.rem (by omega) ?_ | refine G.shr (by omega) ?_ | refine G.conv (by omega) ?_ | refine G.step ?_ | refine G.buildA (by rfl) ?_ | (refine Gs.box ?_; intro _) | (refine Gs.alloc ?_; intro _) | refine Gs.store ?_ | refine G.retc ?_ | refine Gs.dr ?_ | refine G.qadd (by omega) ?_ | refine G.qsub (by omega) ?_ | refine G.qmul (by omega) ?_ | refine G.qkp ?_ | refine Gs.qkb ?_ | refine G.withT ?_ | refine Gs.withb ?_ | refine G.ift ?_ | refine G.iff ?_ | refine G.gdtt ?_ | refine G.gdff ?_ | refine G.gdtf ?_ | refine G.gdft ?_ | (refine G.jk ?_; intro _)))
  refine Gs.callr (args' := [I 8, I 33]) (r' := Two (1, 30, 0)) rfl (by rw [show made 8 33 = (1, 30, 0) by decide +kernel]) (make_ok 8 33 h (by decide) (by decide) hE.tz) ?_
  (repeat (first | refine G.add (by omega) ?_ | refine G.sub (by omega) ?_ | refine G.mul (by omega) ?_ | refine G.neg (by omega) ?_ | refine G.quo (by omega) (by omega) ?_ | refine G.rem (by omega) ?_ | refine G.shr (by omega) ?_ | refine G.conv (by omega) ?_ | refine G.step ?_ | refine G.buildA (by rfl) ?_ | (refine Gs.box ?_; intro _) | (refine Gs.alloc ?_; intro _) | refine Gs.store ?_ | refine G.retc ?_ | refine Gs.dr ?_ | refine G.qadd (by omega) ?_ | refine G.qsub (by omega) ?_ | refine G.qmul (by omega) ?_ | refine G.qkp ?_ | refine Gs.qkb ?_ | refine G.withT ?_ | refine Gs.withb ?_ | refine G.ift ?_ | refine G.iff ?_ | refine G.gdtt ?_ | refine G.gdff ?_ | refine G.gdtf ?_ | refine G.gdft ?_ | (refine G.jk ?_; intro _)))
  refine Gs.callv0 (got_ok 1 30 0 h) ?_
  refine Gs.callv0 (frac_ok 1 30 h) ?_
  (repeat (first | refine G.add (by omega) ?_ | refine G.sub (by omega) ?_ | refine G.mul (by omega) ?_ | refine G.neg (by omega) ?_ | refine G.quo (by omega) (by omega) ?_ | refine G.rem (by omega) ?_ | refine G.shr (by omega) ?_ | refine G.conv (by omega) ?_ | refine G.step ?_ | refine G.buildA (by rfl) ?_ | (refine Gs.box ?_; intro _) | (refine Gs.alloc ?_; intro _) | refine Gs.store ?_ | refine G.retc ?_ | refine Gs.dr ?_ | refine G.qadd (by omega) ?_ | refine G.qsub (by omega) ?_ | refine G.qmul (by omega) ?_ | refine G.qkp ?_ | refine Gs.qkb ?_ | refine G.withT ?_ | refine Gs.withb ?_ | refine G.ift ?_ | refine G.iff ?_ | refine G.gdtt ?_ | refine G.gdff ?_ | refine G.gdtf ?_ | refine G.gdft ?_ | (refine G.jk ?_; intro _)))
  (repeat (first | refine G.add (by omega) ?_ | refine G.sub (by omega) ?_ | refine G.mul (by omega) ?_ | refine G.neg (by omega) ?_ | refine G.quo (by omega) (by omega) ?_ | refine G.rem (by omega) ?_ | refine G.shr (by omega) ?_ | refine G.conv (by omega) ?_ | refine G.step ?_ | refine G.buildA (by rfl) ?_ | (refine Gs.box ?_; intro _) | (refine Gs.alloc ?_; intro _) | refine Gs.store ?_ | refine G.retc ?_ | refine Gs.dr ?_ | refine G.qadd (by omega) ?_ | refine G.qsub (by omega) ?_ | refine G.qmul (by omega) ?_ | refine G.qkp ?_ | refine Gs.qkb ?_ | refine G.withT ?_ | refine Gs.withb ?_ | refine G.ift ?_ | refine G.iff ?_ | refine G.gdtt ?_ | refine G.gdff ?_ | refine G.gdtf ?_ | refine G.gdft ?_ | (refine G.jk ?_; intro _)))
  (repeat (first | refine G.add (by omega) ?_ | refine G.sub (by omega) ?_ | refine G.mul (by omega) ?_ | refine G.neg (by omega) ?_ | refine G.quo (by omega) (by omega) ?_ | refine G.rem (by omega) ?_ | refine G.shr (by omega) ?_ | refine G.conv (by omega) ?_ | refine G.step ?_ | refine G.buildA (by rfl) ?_ | (refine Gs.box ?_; intro _) | (refine Gs.alloc ?_; intro _) | refine Gs.store ?_ | refine G.retc ?_ | refine Gs.dr ?_ | refine G.qadd (by omega) ?_ | refine G.qsub (by omega) ?_ | refine G.qmul (by omega) ?_ | refine G.qkp ?_ | refine Gs.qkb ?_ | refine G.withT ?_ | refine Gs.withb ?_ | refine G.ift ?_ | refine G.iff ?_ | refine G.gdtt ?_ | refine G.gdff ?_ | refine G.gdtf ?_ | refine G.gdft ?_ | (refine G.jk ?_; intro _)))
  refine Gs.callr (args' := [I 1, I 63]) (r' := Two (0, 0, 190)) rfl (by rw [show made 1 63 = (0, 0, 190) by decide +kernel]) (make_ok 1 63 h (by decide) (by decide) hE.tz) ?_
  (repeat (first | refine G.add (by omega) ?_ | refine G.sub (by omega) ?_ | refine G.mul (by omega) ?_ | refine G.neg (by omega) ?_ | refine G.quo (by omega) (by omega) ?_ | refine G.rem (by omega) ?_ | refine G.shr (by omega) ?_ | refine G.conv (by omega) ?_ | refine G.step ?_ | refine G.buildA (by rfl) ?_ | (refine Gs.box ?_; intro _) | (refine Gs.alloc ?_; intro _) | refine Gs.store ?_ | refine G.retc ?_ | refine Gs.dr ?_ | refine G.qadd (by omega) ?_ | refine G.qsub (by omega) ?_ | refine G.qmul (by omega) ?_ | refine G.qkp ?_ | refine Gs.qkb ?_ | refine G.withT ?_ | refine Gs.withb ?_ | refine G.ift ?_ | refine G.iff ?_ | refine G.gdtt ?_ | refine G.gdff ?_ | refine G.gdtf ?_ | refine G.gdft ?_ | (refine G.jk ?_; intro _)))
  refine Gs.callv0 (got_ok 0 0 190 h) ?_
  (repeat (first | refine G.add (by omega) ?_ | refine G.sub (by omega) ?_ | refine G.mul (by omega) ?_ | refine G.neg (by omega) ?_ | refine G.quo (by omega) (by omega) ?_ | refine G.rem (by omega) ?_ | refine G.shr (by omega) ?_ | refine G.conv (by omega) ?_ | refine G.step ?_ | refine G.buildA (by rfl) ?_ | (refine Gs.box ?_; intro _) | (refine Gs.alloc ?_; intro _) | refine Gs.store ?_ | refine G.retc ?_ | refine Gs.dr ?_ | refine G.qadd (by omega) ?_ | refine G.qsub (by omega) ?_ | refine G.qmul (by omega) ?_ | refine G.qkp ?_ | refine Gs.qkb ?_ | refine G.withT ?_ | refine Gs.withb ?_ | refine G.ift ?_ | refine G.iff ?_ | refine G.gdtt ?_ | refine G.gdff ?_ | refine G.gdtf ?_ | refine G.gdft ?_ | refine G.jn ?_ | (refine G.jk ?_; intro _)))
  refine Gs.callv0 (frac_ok 0 0 h) ?_
  refine Gs.callv0 (frac_ok 1 0 h) ?_
  refine Gs.callr (args' := [Fr2 0 ((0 : Nat) : Int), Fr2 1 ((0 : Nat) : Int)]) (r' := Two (1, 1, 0)) rfl (by rw [show btw (val 0 0) (val 1 0) = (1, 1, 0) by decide +kernel]) (Between_ok 0 0 1 0 h (v_1 _ _ (by decide +kernel)) (v_1 _ _ (by decide +kernel))) ?_
  (repeat (first | refine G.add (by omega) ?_ | refine G.sub (by omega) ?_ | refine G.mul (by omega) ?_ | refine G.neg (by omega) ?_ | refine G.quo (by omega) (by omega) ?_ | refine G.rem (by omega) ?_ | refine G.shr (by omega) ?_ | refine G.conv (by omega) ?_ | refine G.step ?_ | refine G.buildA (by rfl) ?_ | (refine Gs.box ?_; intro _) | (refine Gs.alloc ?_; intro _) | refine Gs.store ?_ | refine G.retc ?_ | refine Gs.dr ?_ | refine G.qadd (by omega) ?_ | refine G.qsub (by omega) ?_ | refine G.qmul (by omega) ?_ | refine G.qkp ?_ | refine Gs.qkb ?_ | refine G.withT ?_ | refine Gs.withb ?_ | refine G.ift ?_ | refine G.iff ?_ | refine G.gdtt ?_ | refine G.gdff ?_ | refine G.gdtf ?_ | refine G.gdft ?_ | (refine G.jk ?_; intro _)))
  refine Gs.callv0 (got_ok 1 1 0 h) ?_
  refine Gs.callv0 (frac_ok 1 1 h) ?_
  (repeat (first | refine G.add (by omega) ?_ | refine G.sub (by omega) ?_ | refine G.mul (by omega) ?_ | refine G.neg (by omega) ?_ | refine G.quo (by omega) (by omega) ?_ | refine G.rem (by omega) ?_ | refine G.shr (by omega) ?_ | refine G.conv (by omega) ?_ | refine G.step ?_ | refine G.buildA (by rfl) ?_ | (refine Gs.box ?_; intro _) | (refine Gs.alloc ?_; intro _) | refine Gs.store ?_ | refine G.retc ?_ | refine Gs.dr ?_ | refine G.qadd (by omega) ?_ | refine G.qsub (by omega) ?_ | refine G.qmul (by omega) ?_ | refine G.qkp ?_ | refine Gs.qkb ?_ | refine G.withT ?_ | refine Gs.withb ?_ | refine G.ift ?_ | refine G.iff ?_ | refine G.gdtt ?_ | refine G.gdff ?_ | refine G.gdtf ?_ | refine G.gdft ?_ | (refine G.jk ?_; intro _)))
  (repeat (first | refine G.add (by omega) ?_ | refine G.sub (by omega) ?_ | refine G.mul (by omega) ?_ | refine G.neg (by omega) ?_ | refine G.quo (by omega) (by omega) ?_ | refine G.rem (by omega) ?_ | refine G.shr (by omega) ?_ | refine G.conv (by omega) ?_ | refine G.step ?_ | refine G.buildA (by rfl) ?_ | (refine Gs.box ?_; intro _) | (refine Gs.alloc ?_; intro _) | refine Gs.store ?_ | refine G.retc ?_ | refine Gs.dr ?_ | refine G.qadd (by omega) ?_ | refine G.qsub (by omega) ?_ | refine G.qmul (by omega) ?_ | refine G.qkp ?_ | refine Gs.qkb ?_ | refine G.withT ?_ | refine Gs.withb ?_ | refine G.ift ?_ | refine G.iff ?_ | refine G.gdtt ?_ | refine G.gdff ?_ | refine G.gdtf ?_ | refine G.gdft ?_ | (refine G.jk ?_; intro _)))
  (repeat (first | refine G.add (by omega) ?_ | refine G.sub (by omega) ?_ | refine G.mul (by omega) ?_ | refine G.neg (by omega) ?_ | refine G.quo (by omega) (by omega) ?_ | refine G.rem (by omega) ?_ | refine G.shr (by omega) ?_ | refine G.conv (by omega) ?_ | refine G.step ?_ | refine G.buildA (by rfl) ?_ | (refine Gs.box ?_; intro _) | (refine Gs.alloc ?_; intro _) | refine Gs.store ?_ | refine G.retc ?_ | refine Gs.dr ?_ | refine G.qadd (by omega) ?_ | refine G.qsub (by omega) ?_ | refine G.qmul (by omega) ?_ | refine G.qkp ?_ | refine Gs.qkb ?_ | refine G.withT ?_ | refine Gs.withb ?_ | refine G.ift ?_ | refine G.iff ?_ | refine G.gdtt ?_ | refine G.gdff ?_ | refine G.gdtf ?_ | refine G.gdft ?_ | (refine G.jk ?_; intro _)))
  refine Gs.callv0 (frac_ok 1 2 h) ?_
  refine Gs.callv0 (frac_ok 7 1 h) ?_
  refine Gs.callr (args' := [Fr2 1 ((2 : Nat) : Int), Fr2 7 ((1 : Nat) : Int)]) (r' := Two (1, 0, 0)) rfl (by rw [show btw (val 1 2) (val 7 1) = (1, 0, 0) by decide +kernel]) (Between_ok 1 2 7 1 h (v_1 _ _ (by decide +kernel)) (v_1 _ _ (by decide +kernel))) ?_
  (repeat (first | refine G.add (by omega) ?_ | refine G.sub (by omega) ?_ | refine G.mul (by omega) ?_ | refine G.neg (by omega) ?_ | refine G.quo (by omega) (by omega) ?_ | refine G.rem (by omega) ?_ | refine G.shr (by omega) ?_ | refine G.conv (by omega) ?_ | refine G.step ?_ | refine G.buildA (by rfl) ?_ | (refine Gs.box ?_; intro _) | (refine Gs.alloc ?_; intro _) | refine Gs.store ?_ | refine G.retc ?_ | refine Gs.dr ?_ | refine G.qadd (by omega) ?_ | refine G.qsub (by omega) ?_ | refine G.qmul (by omega) ?_ | refine G.qkp ?_ | refine Gs.qkb ?_ | refine G.withT ?_ | refine Gs.withb ?_ | refine G.ift ?_ | refine G.iff ?_ | refine G.gdtt ?_ | refine G.gdff ?_ | refine G.gdtf ?_ | refine G.gdft ?_ | (refine G.jk ?_; intro _)))
  refine Gs.callv0 (got_ok 1 0 0 h) ?_
  refine Gs.callv0 (frac_ok 1 0 h) ?_
  (repeat (first | refine G.add (by omega) ?_ | refine G.sub (by omega) ?_ | refine G.mul (by omega) ?_ | refine G.neg (by omega) ?_ | refine G.quo (by omega) (by omega) ?_ | refine G.rem (by omega) ?_ | refine G.shr (by omega) ?_ | refine G.conv (by omega) ?_ | refine G.step ?_ | refine G.buildA (by rfl) ?_ | (refine Gs.box ?_; intro _) | (refine Gs.alloc ?_; intro _) | refine Gs.store ?_ | refine G.retc ?_ | refine Gs.dr ?_ | refine G.qadd (by omega) ?_ | refine G.qsub (by omega) ?_ | refine G.qmul (by omega) ?_ | refine G.qkp ?_ | refine Gs.qkb ?_ | refine G.withT ?_ | refine Gs.withb ?_ | refine G.ift ?_ | refine G.iff ?_ | refine G.gdtt ?_ | refine G.gdff ?_ | refine G.gdtf ?_ | refine G.gdft ?_ | (refine G.jk ?_; intro _)))
  (repeat (first | refine G.add (by omega) ?_ | refine G.sub (by omega) ?_ | refine G.mul (by omega) ?_ | refine G.neg (by omega) ?_ | refine G.quo (by omega) (by omega) ?_ | refine G.rem (by omega) ?_ | refine G.shr (by omega) ?_ | refine G.conv (by omega) ?_ | refine G.step ?_ | refine G.buildA (by rfl) ?_ | (refine Gs.box ?_; intro _) | (refine Gs.alloc ?_; intro _) | refine Gs.store ?_ | refine G.retc ?_ | refine Gs.dr ?_ | refine G.qadd (by omega) ?_ | refine G.qsub (by omega) ?_ | refine G.qmul (by omega) ?_ | refine G.qkp ?_ | refine Gs.qkb ?_ | refine G.withT ?_ | refine Gs.withb ?_ | refine G.ift ?_ | refine G.iff ?_ | refine G.gdtt ?_ | refine G.gdff ?_ | refine G.gdtf ?_ | refine G.gdft ?_ | (refine G.jk ?_; intro _)))
  (repeat (first | refine G.add (by omega) ?_ | refine G.sub (by omega) ?_ | refine G.mul (by omega) ?_ | refine G.neg (by omega) ?_ | refine G.quo (by omega) (by omega) ?_ | refine G.rem (by omega) ?_ | refine G.shr (by omega) ?_ | refine G.conv (by omega) ?_ | refine G.step ?_ | refine G.buildA (by rfl) ?_ | (refine Gs.box ?_; intro _) | (refine Gs.alloc ?_; intro _) | refine Gs.store ?_ | refine G.retc ?_ | refine Gs.dr ?_ | refine G.qadd (by omega) ?_ | refine G.qsub (by omega) ?_ | refine G.qmul (by omega) ?_ | refine G.qkp ?_ | refine Gs.qkb ?_ | refine G.withT ?_ | refine Gs.withb ?_ | refine G.ift ?_ | refine G.iff ?_ | refine G.gdtt ?_ | refine G.gdff ?_ | refine G.gdtf ?_ | refine G.gdft ?_ | (refine G.jk ?_; intro _)))
  refine Gs.callv0 (frac_ok (-5) 0 h) ?_
  (repeat (first | refine G.add (by omega) ?_ | refine G.sub (by omega) ?_ | refine G.mul (by omega) ?_ | refine G.neg (by omega) ?_ | refine G.quo (by omega) (by omega) ?_ | refine G.rem (by omega) ?_ | refine G.shr (by omega) ?_ | refine G.conv (by omega) ?_ | refine G.step ?_ | refine G.buildA (by rfl) ?_ | (refine Gs.box ?_; intro _) | (refine Gs.alloc ?_; intro _) | refine Gs.store ?_ | refine G.retc ?_ | refine Gs.dr ?_ | refine G.qadd (by omega) ?_ | refine G.qsub (by omega) ?_ | refine G.qmul (by omega) ?_ | refine G.qkp ?_ | refine Gs.qkb ?_ | refine G.withT ?_ | refine Gs.withb ?_ | refine G.ift ?_ | refine G.iff ?_ | refine G.gdtt ?_ | refine G.gdff ?_ | refine G.gdtf ?_ | refine G.gdft ?_ | (refine G.jk ?_; intro _)))
  refine Gs.callv0 (frac_ok 9 0 h) ?_
  (repeat (first | refine G.add (by omega) ?_ | refine G.sub (by omega) ?_ | refine G.mul (by omega) ?_ | refine G.neg (by omega) ?_ | refine G.quo (by omega) (by omega) ?_ | refine G.rem (by omega) ?_ | refine G.shr (by omega) ?_ | refine G.conv (by omega) ?_ | refine G.step ?_ | refine G.buildA (by rfl) ?_ | (refine Gs.box ?_; intro _) | (refine Gs.alloc ?_; intro _) | refine Gs.store ?_ | refine G.retc ?_ | refine Gs.dr ?_ | refine G.qadd (by omega) ?_ | refine G.qsub (by omega) ?_ | refine G.qmul (by omega) ?_ | refine G.qkp ?_ | refine Gs.qkb ?_ | refine G.withT ?_ | refine Gs.withb ?_ | refine G.ift ?_ | refine G.iff ?_ | refine G.gdtt ?_ | refine G.gdff ?_ | refine G.gdtf ?_ | refine G.gdft ?_ | (refine G.jk ?_; intro _)))
  refine Gs.callr (args' := [Fr2 (-5) ((0 : Nat) : Int), Fr2 9 ((0 : Nat) : Int)]) (r' := Two (0, 0, 0)) rfl (by rw [show btw (val (-5) 0) (val 9 0) = (0, 0, 0) by decide +kernel]) (Between_ok (-5) 0 9 0 h (v_1 _ _ (by decide +kernel)) (v_1 _ _ (by decide +kernel))) ?_
  (repeat (first | refine G.add (by omega) ?_ | refine G.sub (by omega) ?_ | refine G.mul (by omega) ?_ | refine G.neg (by omega) ?_ | refine G.quo (by omega) (by omega) ?_ | refine G.rem (by omega) ?_ | refine G.shr (by omega) ?_ | refine G.conv (by omega) ?_ | refine G.step ?_ | refine G.buildA (by rfl) ?_ | (refine Gs.box ?_; intro _) | (refine Gs.alloc ?_; intro _) | refine Gs.store ?_ | refine G.retc ?_ | refine Gs.dr ?_ | refine G.qadd (by omega) ?_ | refine G.qsub (by omega) ?_ | refine G.qmul (by omega) ?_ | refine G.qkp ?_ | refine Gs.qkb ?_ | refine G.withT ?_ | refine Gs.withb ?_ | refine G.ift ?_ | refine G.iff ?_ | refine G.gdtt ?_ | refine G.gdff ?_ | refine G.gdtf ?_ | refine G.gdft ?_ | (refine G.jk ?_; intro _)))
  refine Gs.callv0 (got_ok 0 0 0 h) ?_
  (repeat (first | refine G.add (by omega) ?_ | refine G.sub (by omega) ?_ | refine G.mul (by omega) ?_ | refine G.neg (by omega) ?_ | refine G.quo (by omega) (by omega) ?_ | refine G.rem (by omega) ?_ | refine G.shr (by omega) ?_ | refine G.conv (by omega) ?_ | refine G.step ?_ | refine G.buildA (by rfl) ?_ | (refine Gs.box ?_; intro _) | (refine Gs.alloc ?_; intro _) | refine Gs.store ?_ | refine G.retc ?_ | refine Gs.dr ?_ | refine G.qadd (by omega) ?_ | refine G.qsub (by omega) ?_ | refine G.qmul (by omega) ?_ | refine G.qkp ?_ | refine Gs.qkb ?_ | refine G.withT ?_ | refine Gs.withb ?_ | refine G.ift ?_ | refine G.iff ?_ | refine G.gdtt ?_ | refine G.gdff ?_ | refine G.gdtf ?_ | refine G.gdft ?_ | (refine G.jk ?_; intro _)))
  (repeat (first | refine G.add (by omega) ?_ | refine G.sub (by omega) ?_ | refine G.mul (by omega) ?_ | refine G.neg (by omega) ?_ | refine G.quo (by omega) (by omega) ?_ | refine G.rem (by omega) ?_ | refine G.shr (by omega) ?_ | refine G.conv (by omega) ?_ | refine G.step ?_ | refine G.buildA (by rfl) ?_ | (refine Gs.box ?_; intro _) | (refine Gs.alloc ?_; intro _) | refine Gs.store ?_ | refine G.retc ?_ | refine Gs.dr ?_ | refine G.qadd (by omega) ?_ | refine G.qsub (by omega) ?_ | refine G.qmul (by omega) ?_ | refine G.qkp ?_ | refine Gs.qkb ?_ | refine G.withT ?_ | refine Gs.withb ?_ | refine G.ift ?_ | refine G.iff ?_ | refine G.gdtt ?_ | refine G.gdff ?_ | refine G.gdtf ?_ | refine G.gdft ?_ | (refine G.jk ?_; intro _)))
  (repeat (first | refine G.add (by omega) ?_ | refine G.sub (by omega) ?_ | refine G.mul (by omega) ?_ | refine G.neg (by omega) ?_ | refine G.quo (by omega) (by omega) ?_ | refine G.rem (by omega) ?_ | refine G.shr (by omega) ?_ | refine G.conv (by omega) ?_ | refine G.step ?_ | refine G.buildA (by rfl) ?_ | (refine Gs.box ?_; intro _) | (refine Gs.alloc ?_; intro _) | refine Gs.store ?_ | refine G.retc ?_ | refine Gs.dr ?_ | refine G.qadd (by omega) ?_ | refine G.qsub (by omega) ?_ | refine G.qmul (by omega) ?_ | refine G.qkp ?_ | refine Gs.qkb ?_ | refine G.withT ?_ | refine Gs.withb ?_ | refine G.ift ?_ | refine G.iff ?_ | refine G.gdtt ?_ | refine G.gdff ?_ | refine G.gdtf ?_ | refine G.gdft ?_ | (refine G.jk ?_; intro _)))
  refine Gs.callv0 (frac_ok 1 1 h) ?_
  (repeat (first | refine G.add (by omega) ?_ | refine G.sub (by omega) ?_ | refine G.mul (by omega) ?_ | refine G.neg (by omega) ?_ | refine G.quo (by omega) (by omega) ?_ | refine G.rem (by omega) ?_ | refine G.shr (by omega) ?_ | refine G.conv (by omega) ?_ | refine G.step ?_ | refine G.buildA (by rfl) ?_ | (refine Gs.box ?_; intro _) | (refine Gs.alloc ?_; intro _) | refine Gs.store ?_ | refine G.retc ?_ | refine Gs.dr ?_ | refine G.qadd (by omega) ?_ | refine G.qsub (by omega) ?_ | refine G.qmul (by omega) ?_ | refine G.qkp ?_ | refine Gs.qkb ?_ | refine G.withT ?_ | refine Gs.withb ?_ | refine G.ift ?_ | refine G.iff ?_ | refine G.gdtt ?_ | refine G.gdff ?_ | refine G.gdtf ?_ | refine G.gdft ?_ | (refine G.jk ?_; intro _)))
  refine Gs.callv0 (frac_ok 1 1 h) ?_
  (repeat (first | refine G.add (by omega) ?_ | refine G.sub (by omega) ?_ | refine G.mul (by omega) ?_ | refine G.neg (by omega) ?_ | refine G.quo (by omega) (by omega) ?_ | refine G.rem (by omega) ?_ | refine G.shr (by omega) ?_ | refine G.conv (by omega) ?_ | refine G.step ?_ | refine G.buildA (by rfl) ?_ | (refine Gs.box ?_; intro _) | (refine Gs.alloc ?_; intro _) | refine Gs.store ?_ | refine G.retc ?_ | refine Gs.dr ?_ | refine G.qadd (by omega) ?_ | refine G.qsub (by omega) ?_ | refine G.qmul (by omega) ?_ | refine G.qkp ?_ | refine Gs.qkb ?_ | refine G.withT ?_ | refine Gs.withb ?_ | refine G.ift ?_ | refine G.iff ?_ | refine G.gdtt ?_ | refine G.gdff ?_ | refine G.gdtf ?_ | refine G.gdft ?_ | (refine G.jk ?_; intro _)))
  refine Gs.callr (args' := [Fr2 1 ((1 : Nat) : Int), Fr2 1 ((1 : Nat) : Int)]) (r' := Two (0, 0, 190)) rfl (by rw [show btw (val 1 1) (val 1 1) = (0, 0, 190) by decide +kernel]) (Between_ok 1 1 1 1 h (v_1 _ _ (by decide +kernel)) (v_1 _ _ (by decide +kernel))) ?_
  (repeat (first | refine G.add (by omega) ?_ | refine G.sub (by omega) ?_ | refine G.mul (by omega) ?_ | refine G.neg (by omega) ?_ | refine G.quo (by omega) (by omega) ?_ | refine G.rem (by omega) ?_ | refine G.shr (by omega) ?_ | refine G.conv (by omega) ?_ | refine G.step ?_ | refine G.buildA (by rfl) ?_ | (refine Gs.box ?_; intro _) | (refine Gs.alloc ?_; intro _) | refine Gs.store ?_ | refine G.retc ?_ | refine Gs.dr ?_ | refine G.qadd (by omega) ?_ | refine G.qsub (by omega) ?_ | refine G.qmul (by omega) ?_ | refine G.qkp ?_ | refine Gs.qkb ?_ | refine G.withT ?_ | refine Gs.withb ?_ | refine G.ift ?_ | refine G.iff ?_ | refine G.gdtt ?_ | refine G.gdff ?_ | refine G.gdtf ?_ | refine G.gdft ?_ | (refine G.jk ?_; intro _)))
  refine Gs.callv0 (got_ok 0 0 190 h) ?_
  (repeat (first | refine G.add (by omega) ?_ | refine G.sub (by omega) ?_ | refine G.mul (by omega) ?_ | refine G.neg (by omega) ?_ | refine G.quo (by omega) (by omega) ?_ | refine G.rem (by omega) ?_ | refine G.shr (by omega) ?_ | refine G.conv (by omega) ?_ | refine G.step ?_ | refine G.buildA (by rfl) ?_ | (refine Gs.box ?_; intro _) | (refine Gs.alloc ?_; intro _) | refine Gs.store ?_ | refine G.retc ?_ | refine Gs.dr ?_ | refine G.qadd (by omega) ?_ | refine G.qsub (by omega) ?_ | refine G.qmul (by omega) ?_ | refine G.qkp ?_ | refine Gs.qkb ?_ | refine G.withT ?_ | refine Gs.withb ?_ | refine G.ift ?_ | refine G.iff ?_ | refine G.gdtt ?_ | refine G.gdff ?_ | refine G.gdtf ?_ | refine G.gdft ?_ | refine G.jn ?_ | (refine G.jk ?_; intro _)))
  refine Gs.callv0 (frac_ok (-3) 2 h) ?_
  refine Gs.callr (args' := [Fr2 (-3) ((2 : Nat) : Int)]) (r' := Str [45, 51, 47, 52]) rfl (by rw [txt_m34]) (Print_ok (-3) 2 h hE (by decide) (by decide) (by decide)) ?_
  (repeat (first | refine G.add (by omega) ?_ | refine G.sub (by omega) ?_ | refine G.mul (by omega) ?_ | refine G.neg (by omega) ?_ | refine G.quo (by omega) (by omega) ?_ | refine G.rem (by omega) ?_ | refine G.shr (by omega) ?_ | refine G.conv (by omega) ?_ | refine G.step ?_ | refine G.buildA (by rfl) ?_ | (refine Gs.box ?_; intro _) | (refine Gs.alloc ?_; intro _) | refine Gs.store ?_ | refine G.retc ?_ | refine Gs.dr ?_ | refine G.qadd (by omega) ?_ | refine G.qsub (by omega) ?_ | refine G.qmul (by omega) ?_ | refine G.qkp ?_ | refine Gs.qkb ?_ | refine G.withT ?_ | refine Gs.withb ?_ | refine G.ift ?_ | refine G.iff ?_ | refine G.gdtt ?_ | refine G.gdff ?_ | refine G.gdtf ?_ | refine G.gdft ?_ | (refine G.jk ?_; intro _)))
  (repeat (first | refine G.add (by omega) ?_ | refine G.sub (by omega) ?_ | refine G.mul (by omega) ?_ | refine G.neg (by omega) ?_ | refine G.quo (by omega) (by omega) ?_ | refine G.rem (by omega) ?_ | refine G.shr (by omega) ?_ | refine G.conv (by omega) ?_ | refine G.step ?_ | refine G.buildA (by rfl) ?_ | (refine Gs.box ?_; intro _) | (refine Gs.alloc ?_; intro _) | refine Gs.store ?_ | refine G.retc ?_ | refine Gs.dr ?_ | refine G.qadd (by omega) ?_ | refine G.qsub (by omega) ?_ | refine G.qmul (by omega) ?_ | refine G.qkp ?_ | refine Gs.qkb ?_ | refine G.withT ?_ | refine Gs.withb ?_ | refine G.ift ?_ | refine G.iff ?_ | refine G.gdtt ?_ | refine G.gdff ?_ | refine G.gdtf ?_ | refine G.gdft ?_ | (refine G.jk ?_; intro _)))
  (repeat (first | refine G.add (by omega) ?_ | refine G.sub (by omega) ?_ | refine G.mul (by omega) ?_ | refine G.neg (by omega) ?_ | refine G.quo (by omega) (by omega) ?_ | refine G.rem (by omega) ?_ | refine G.shr (by omega) ?_ | refine G.conv (by omega) ?_ | refine G.step ?_ | refine G.buildA (by rfl) ?_ | (refine Gs.box ?_; intro _) | (refine Gs.alloc ?_; intro _) | refine Gs.store ?_ | refine G.retc ?_ | refine Gs.dr ?_ | refine G.qadd (by omega) ?_ | refine G.qsub (by omega) ?_ | refine G.qmul (by omega) ?_ | refine G.qkp ?_ | refine Gs.qkb ?_ | refine G.withT ?_ | refine Gs.withb ?_ | refine G.ift ?_ | refine G.iff ?_ | refine G.gdtt ?_ | refine G.gdff ?_ | refine G.gdtf ?_ | refine G.gdft ?_ | (refine G.jk ?_; intro _)))
  refine Gs.callr (args' := [Str [50, 47, 52]]) (r' := Two (0, 0, 3)) rfl (by rw [no24]) (Parse_ok _ h (by decide) hE) ?_
  (repeat (first | refine G.add (by omega) ?_ | refine G.sub (by omega) ?_ | refine G.mul (by omega) ?_ | refine G.neg (by omega) ?_ | refine G.quo (by omega) (by omega) ?_ | refine G.rem (by omega) ?_ | refine G.shr (by omega) ?_ | refine G.conv (by omega) ?_ | refine G.step ?_ | refine G.buildA (by rfl) ?_ | (refine Gs.box ?_; intro _) | (refine Gs.alloc ?_; intro _) | refine Gs.store ?_ | refine G.retc ?_ | refine Gs.dr ?_ | refine G.qadd (by omega) ?_ | refine G.qsub (by omega) ?_ | refine G.qmul (by omega) ?_ | refine G.qkp ?_ | refine Gs.qkb ?_ | refine G.withT ?_ | refine Gs.withb ?_ | refine G.ift ?_ | refine G.iff ?_ | refine G.gdtt ?_ | refine G.gdff ?_ | refine G.gdtf ?_ | refine G.gdft ?_ | (refine G.jk ?_; intro _)))
  refine Gs.callv0 (got_ok 0 0 3 h) ?_
  (repeat (first | refine G.add (by omega) ?_ | refine G.sub (by omega) ?_ | refine G.mul (by omega) ?_ | refine G.neg (by omega) ?_ | refine G.quo (by omega) (by omega) ?_ | refine G.rem (by omega) ?_ | refine G.shr (by omega) ?_ | refine G.conv (by omega) ?_ | refine G.step ?_ | refine G.buildA (by rfl) ?_ | (refine Gs.box ?_; intro _) | (refine Gs.alloc ?_; intro _) | refine Gs.store ?_ | refine G.retc ?_ | refine Gs.dr ?_ | refine G.qadd (by omega) ?_ | refine G.qsub (by omega) ?_ | refine G.qmul (by omega) ?_ | refine G.qkp ?_ | refine Gs.qkb ?_ | refine G.withT ?_ | refine Gs.withb ?_ | refine G.ift ?_ | refine G.iff ?_ | refine G.gdtt ?_ | refine G.gdff ?_ | refine G.gdtf ?_ | refine G.gdft ?_ | (refine G.jk ?_; intro _)))
  (repeat (first | refine G.add (by omega) ?_ | refine G.sub (by omega) ?_ | refine G.mul (by omega) ?_ | refine G.neg (by omega) ?_ | refine G.quo (by omega) (by omega) ?_ | refine G.rem (by omega) ?_ | refine G.shr (by omega) ?_ | refine G.conv (by omega) ?_ | refine G.step ?_ | refine G.buildA (by rfl) ?_ | (refine Gs.box ?_; intro _) | (refine Gs.alloc ?_; intro _) | refine Gs.store ?_ | refine G.retc ?_ | refine Gs.dr ?_ | refine G.qadd (by omega) ?_ | refine G.qsub (by omega) ?_ | refine G.qmul (by omega) ?_ | refine G.qkp ?_ | refine Gs.qkb ?_ | refine G.withT ?_ | refine Gs.withb ?_ | refine G.ift ?_ | refine G.iff ?_ | refine G.gdtt ?_ | refine G.gdff ?_ | refine G.gdtf ?_ | refine G.gdft ?_ | (refine G.jk ?_; intro _)))
  (repeat (first | refine G.add (by omega) ?_ | refine G.sub (by omega) ?_ | refine G.mul (by omega) ?_ | refine G.neg (by omega) ?_ | refine G.quo (by omega) (by omega) ?_ | refine G.rem (by omega) ?_ | refine G.shr (by omega) ?_ | refine G.conv (by omega) ?_ | refine G.step ?_ | refine G.buildA (by rfl) ?_ | (refine Gs.box ?_; intro _) | (refine Gs.alloc ?_; intro _) | refine Gs.store ?_ | refine G.retc ?_ | refine Gs.dr ?_ | refine G.qadd (by omega) ?_ | refine G.qsub (by omega) ?_ | refine G.qmul (by omega) ?_ | refine G.qkp ?_ | refine Gs.qkb ?_ | refine G.withT ?_ | refine Gs.withb ?_ | refine G.ift ?_ | refine G.iff ?_ | refine G.gdtt ?_ | refine G.gdff ?_ | refine G.gdtf ?_ | refine G.gdft ?_ | (refine G.jk ?_; intro _)))
  refine Gs.callr (args' := [Str [45, 48]]) (r' := Two (0, 0, 3)) rfl (by rw [nom0]) (Parse_ok _ h (by decide) hE) ?_
  (repeat (first | refine G.add (by omega) ?_ | refine G.sub (by omega) ?_ | refine G.mul (by omega) ?_ | refine G.neg (by omega) ?_ | refine G.quo (by omega) (by omega) ?_ | refine G.rem (by omega) ?_ | refine G.shr (by omega) ?_ | refine G.conv (by omega) ?_ | refine G.step ?_ | refine G.buildA (by rfl) ?_ | (refine Gs.box ?_; intro _) | (refine Gs.alloc ?_; intro _) | refine Gs.store ?_ | refine G.retc ?_ | refine Gs.dr ?_ | refine G.qadd (by omega) ?_ | refine G.qsub (by omega) ?_ | refine G.qmul (by omega) ?_ | refine G.qkp ?_ | refine Gs.qkb ?_ | refine G.withT ?_ | refine Gs.withb ?_ | refine G.ift ?_ | refine G.iff ?_ | refine G.gdtt ?_ | refine G.gdff ?_ | refine G.gdtf ?_ | refine G.gdft ?_ | (refine G.jk ?_; intro _)))
  refine Gs.callv0 (got_ok 0 0 3 h) ?_
  (repeat (first | refine G.add (by omega) ?_ | refine G.sub (by omega) ?_ | refine G.mul (by omega) ?_ | refine G.neg (by omega) ?_ | refine G.quo (by omega) (by omega) ?_ | refine G.rem (by omega) ?_ | refine G.shr (by omega) ?_ | refine G.conv (by omega) ?_ | refine G.step ?_ | refine G.buildA (by rfl) ?_ | (refine Gs.box ?_; intro _) | (refine Gs.alloc ?_; intro _) | refine Gs.store ?_ | refine G.retc ?_ | refine Gs.dr ?_ | refine G.qadd (by omega) ?_ | refine G.qsub (by omega) ?_ | refine G.qmul (by omega) ?_ | refine G.qkp ?_ | refine Gs.qkb ?_ | refine G.withT ?_ | refine Gs.withb ?_ | refine G.ift ?_ | refine G.iff ?_ | refine G.gdtt ?_ | refine G.gdff ?_ | refine G.gdtf ?_ | refine G.gdft ?_ | (refine G.jk ?_; intro _)))
  (repeat (first | refine G.add (by omega) ?_ | refine G.sub (by omega) ?_ | refine G.mul (by omega) ?_ | refine G.neg (by omega) ?_ | refine G.quo (by omega) (by omega) ?_ | refine G.rem (by omega) ?_ | refine G.shr (by omega) ?_ | refine G.conv (by omega) ?_ | refine G.step ?_ | refine G.buildA (by rfl) ?_ | (refine Gs.box ?_; intro _) | (refine Gs.alloc ?_; intro _) | refine Gs.store ?_ | refine G.retc ?_ | refine Gs.dr ?_ | refine G.qadd (by omega) ?_ | refine G.qsub (by omega) ?_ | refine G.qmul (by omega) ?_ | refine G.qkp ?_ | refine Gs.qkb ?_ | refine G.withT ?_ | refine Gs.withb ?_ | refine G.ift ?_ | refine G.iff ?_ | refine G.gdtt ?_ | refine G.gdff ?_ | refine G.gdtf ?_ | refine G.gdft ?_ | (refine G.jk ?_; intro _)))
  (repeat (first | refine G.add (by omega) ?_ | refine G.sub (by omega) ?_ | refine G.mul (by omega) ?_ | refine G.neg (by omega) ?_ | refine G.quo (by omega) (by omega) ?_ | refine G.rem (by omega) ?_ | refine G.shr (by omega) ?_ | refine G.conv (by omega) ?_ | refine G.step ?_ | refine G.buildA (by rfl) ?_ | (refine Gs.box ?_; intro _) | (refine Gs.alloc ?_; intro _) | refine Gs.store ?_ | refine G.retc ?_ | refine Gs.dr ?_ | refine G.qadd (by omega) ?_ | refine G.qsub (by omega) ?_ | refine G.qmul (by omega) ?_ | refine G.qkp ?_ | refine Gs.qkb ?_ | refine G.withT ?_ | refine Gs.withb ?_ | refine G.ift ?_ | refine G.iff ?_ | refine G.gdtt ?_ | refine G.gdff ?_ | refine G.gdtf ?_ | refine G.gdft ?_ | (refine G.jk ?_; intro _)))
  refine Gs.callr (args' := [Str [49, 47, 51]]) (r' := Two (0, 0, 3)) rfl (by rw [no13]) (Parse_ok _ h (by decide) hE) ?_
  (repeat (first | refine G.add (by omega) ?_ | refine G.sub (by omega) ?_ | refine G.mul (by omega) ?_ | refine G.neg (by omega) ?_ | refine G.quo (by omega) (by omega) ?_ | refine G.rem (by omega) ?_ | refine G.shr (by omega) ?_ | refine G.conv (by omega) ?_ | refine G.step ?_ | refine G.buildA (by rfl) ?_ | (refine Gs.box ?_; intro _) | (refine Gs.alloc ?_; intro _) | refine Gs.store ?_ | refine G.retc ?_ | refine Gs.dr ?_ | refine G.qadd (by omega) ?_ | refine G.qsub (by omega) ?_ | refine G.qmul (by omega) ?_ | refine G.qkp ?_ | refine Gs.qkb ?_ | refine G.withT ?_ | refine Gs.withb ?_ | refine G.ift ?_ | refine G.iff ?_ | refine G.gdtt ?_ | refine G.gdff ?_ | refine G.gdtf ?_ | refine G.gdft ?_ | (refine G.jk ?_; intro _)))
  refine Gs.callv0 (got_ok 0 0 3 h) ?_
  (repeat (first | refine G.add (by omega) ?_ | refine G.sub (by omega) ?_ | refine G.mul (by omega) ?_ | refine G.neg (by omega) ?_ | refine G.quo (by omega) (by omega) ?_ | refine G.rem (by omega) ?_ | refine G.shr (by omega) ?_ | refine G.conv (by omega) ?_ | refine G.step ?_ | refine G.buildA (by rfl) ?_ | (refine Gs.box ?_; intro _) | (refine Gs.alloc ?_; intro _) | refine Gs.store ?_ | refine G.retc ?_ | refine Gs.dr ?_ | refine G.qadd (by omega) ?_ | refine G.qsub (by omega) ?_ | refine G.qmul (by omega) ?_ | refine G.qkp ?_ | refine Gs.qkb ?_ | refine G.withT ?_ | refine Gs.withb ?_ | refine G.ift ?_ | refine G.iff ?_ | refine G.gdtt ?_ | refine G.gdff ?_ | refine G.gdtf ?_ | refine G.gdft ?_ | (refine G.jk ?_; intro _)))
  (repeat (first | refine G.add (by omega) ?_ | refine G.sub (by omega) ?_ | refine G.mul (by omega) ?_ | refine G.neg (by omega) ?_ | refine G.quo (by omega) (by omega) ?_ | refine G.rem (by omega) ?_ | refine G.shr (by omega) ?_ | refine G.conv (by omega) ?_ | refine G.step ?_ | refine G.buildA (by rfl) ?_ | (refine Gs.box ?_; intro _) | (refine Gs.alloc ?_; intro _) | refine Gs.store ?_ | refine G.retc ?_ | refine Gs.dr ?_ | refine G.qadd (by omega) ?_ | refine G.qsub (by omega) ?_ | refine G.qmul (by omega) ?_ | refine G.qkp ?_ | refine Gs.qkb ?_ | refine G.withT ?_ | refine Gs.withb ?_ | refine G.ift ?_ | refine G.iff ?_ | refine G.gdtt ?_ | refine G.gdff ?_ | refine G.gdtf ?_ | refine G.gdft ?_ | (refine G.jk ?_; intro _)))
  (repeat (first | refine G.add (by omega) ?_ | refine G.sub (by omega) ?_ | refine G.mul (by omega) ?_ | refine G.neg (by omega) ?_ | refine G.quo (by omega) (by omega) ?_ | refine G.rem (by omega) ?_ | refine G.shr (by omega) ?_ | refine G.conv (by omega) ?_ | refine G.step ?_ | refine G.buildA (by rfl) ?_ | (refine Gs.box ?_; intro _) | (refine Gs.alloc ?_; intro _) | refine Gs.store ?_ | refine G.retc ?_ | refine Gs.dr ?_ | refine G.qadd (by omega) ?_ | refine G.qsub (by omega) ?_ | refine G.qmul (by omega) ?_ | refine G.qkp ?_ | refine Gs.qkb ?_ | refine G.withT ?_ | refine Gs.withb ?_ | refine G.ift ?_ | refine G.iff ?_ | refine G.gdtt ?_ | refine G.gdff ?_ | refine G.gdtf ?_ | refine G.gdft ?_ | (refine G.jk ?_; intro _)))
  refine Gs.callr (args' := [Str [55, 47, 50]]) (r' := Two (7, 1, 0)) rfl (by rw [← txt_72, parseS_txt 7 1 (v_1 _ _ (by decide +kernel))]; rfl) (Parse_ok _ h (by decide) hE) ?_
  (repeat (first | refine G.add (by omega) ?_ | refine G.sub (by omega) ?_ | refine G.mul (by omega) ?_ | refine G.neg (by omega) ?_ | refine G.quo (by omega) (by omega) ?_ | refine G.rem (by omega) ?_ | refine G.shr (by omega) ?_ | refine G.conv (by omega) ?_ | refine G.step ?_ | refine G.buildA (by rfl) ?_ | (refine Gs.box ?_; intro _) | (refine Gs.alloc ?_; intro _) | refine Gs.store ?_ | refine G.retc ?_ | refine Gs.dr ?_ | refine G.qadd (by omega) ?_ | refine G.qsub (by omega) ?_ | refine G.qmul (by omega) ?_ | refine G.qkp ?_ | refine Gs.qkb ?_ | refine G.withT ?_ | refine Gs.withb ?_ | refine G.ift ?_ | refine G.iff ?_ | refine G.gdtt ?_ | refine G.gdff ?_ | refine G.gdtf ?_ | refine G.gdft ?_ | (refine G.jk ?_; intro _)))
  refine Gs.callv0 (got_ok 7 1 0 h) ?_
  refine Gs.callv0 (frac_ok 7 1 h) ?_
  (repeat (first | refine G.add (by omega) ?_ | refine G.sub (by omega) ?_ | refine G.mul (by omega) ?_ | refine G.neg (by omega) ?_ | refine G.quo (by omega) (by omega) ?_ | refine G.rem (by omega) ?_ | refine G.shr (by omega) ?_ | refine G.conv (by omega) ?_ | refine G.step ?_ | refine G.buildA (by rfl) ?_ | (refine Gs.box ?_; intro _) | (refine Gs.alloc ?_; intro _) | refine Gs.store ?_ | refine G.retc ?_ | refine Gs.dr ?_ | refine G.qadd (by omega) ?_ | refine G.qsub (by omega) ?_ | refine G.qmul (by omega) ?_ | refine G.qkp ?_ | refine Gs.qkb ?_ | refine G.withT ?_ | refine Gs.withb ?_ | refine G.ift ?_ | refine G.iff ?_ | refine G.gdtt ?_ | refine G.gdff ?_ | refine G.gdtf ?_ | refine G.gdft ?_ | refine G.jn ?_ | (refine G.jk ?_; intro _)))
  (repeat (first | refine G.add (by omega) ?_ | refine G.sub (by omega) ?_ | refine G.mul (by omega) ?_ | refine G.neg (by omega) ?_ | refine G.quo (by omega) (by omega) ?_ | refine G.rem (by omega) ?_ | refine G.shr (by omega) ?_ | refine G.conv (by omega) ?_ | refine G.step ?_ | refine G.buildA (by rfl) ?_ | (refine Gs.box ?_; intro _) | (refine Gs.alloc ?_; intro _) | refine Gs.store ?_ | refine G.retc ?_ | refine Gs.dr ?_ | refine G.qadd (by omega) ?_ | refine G.qsub (by omega) ?_ | refine G.qmul (by omega) ?_ | refine G.qkp ?_ | refine Gs.qkb ?_ | refine G.withT ?_ | refine Gs.withb ?_ | refine G.ift ?_ | refine G.iff ?_ | refine G.gdtt ?_ | refine G.gdff ?_ | refine G.gdtf ?_ | refine G.gdft ?_ | (refine G.jk ?_; intro _)))
  (repeat (first | refine G.add (by omega) ?_ | refine G.sub (by omega) ?_ | refine G.mul (by omega) ?_ | refine G.neg (by omega) ?_ | refine G.quo (by omega) (by omega) ?_ | refine G.rem (by omega) ?_ | refine G.shr (by omega) ?_ | refine G.conv (by omega) ?_ | refine G.step ?_ | refine G.buildA (by rfl) ?_ | (refine Gs.box ?_; intro _) | (refine Gs.alloc ?_; intro _) | refine Gs.store ?_ | refine G.retc ?_ | refine Gs.dr ?_ | refine G.qadd (by omega) ?_ | refine G.qsub (by omega) ?_ | refine G.qmul (by omega) ?_ | refine G.qkp ?_ | refine Gs.qkb ?_ | refine G.withT ?_ | refine Gs.withb ?_ | refine G.ift ?_ | refine G.iff ?_ | refine G.gdtt ?_ | refine G.gdff ?_ | refine G.gdtf ?_ | refine G.gdft ?_ | (refine G.jk ?_; intro _)))
  (repeat (first | refine G.add (by omega) ?_ | refine G.sub (by omega) ?_ | refine G.mul (by omega) ?_ | refine G.neg (by omega) ?_ | refine G.quo (by omega) (by omega) ?_ | refine G.rem (by omega) ?_ | refine G.shr (by omega) ?_ | refine G.conv (by omega) ?_ | refine G.step ?_ | refine G.buildA (by rfl) ?_ | (refine Gs.box ?_; intro _) | (refine Gs.alloc ?_; intro _) | refine Gs.store ?_ | refine G.retc ?_ | refine Gs.dr ?_ | refine G.qadd (by omega) ?_ | refine G.qsub (by omega) ?_ | refine G.qmul (by omega) ?_ | refine G.qkp ?_ | refine Gs.qkb ?_ | refine G.withT ?_ | refine Gs.withb ?_ | refine G.ift ?_ | refine G.iff ?_ | refine G.gdtt ?_ | refine G.gdff ?_ | refine G.gdtf ?_ | refine G.gdft ?_ | (refine G.jk ?_; intro _)))
  refine Gs.callv0 (frac_ok 1 1 h) ?_
  refine Gs.callv0 (frac_ok 1 1 h) ?_
  refine Gs.callr (args' := [Fr2 1 ((1 : Nat) : Int), Fr2 1 ((1 : Nat) : Int)]) (r' := Two (1, 0, 0)) rfl (by rw [show norm (val 1 1 + val 1 1) = (1, 0, 0) by decide +kernel]) (Add_ok 1 1 1 1 h (v_1 _ _ (by decide +kernel)) (v_1 _ _ (by decide +kernel)) hE.tz) ?_
  (repeat (first | refine G.add (by omega) ?_ | refine G.sub (by omega) ?_ | refine G.mul (by omega) ?_ | refine G.neg (by omega) ?_ | refine G.quo (by omega) (by omega) ?_ | refine G.rem (by omega) ?_ | refine G.shr (by omega) ?_ | refine G.conv (by omega) ?_ | refine G.step ?_ | refine G.buildA (by rfl) ?_ | (refine Gs.box ?_; intro _) | (refine Gs.alloc ?_; intro _) | refine Gs.store ?_ | refine G.retc ?_ | refine Gs.dr ?_ | refine G.qadd (by omega) ?_ | refine G.qsub (by omega) ?_ | refine G.qmul (by omega) ?_ | refine G.qkp ?_ | refine Gs.qkb ?_ | refine G.withT ?_ | refine Gs.withb ?_ | refine G.ift ?_ | refine G.iff ?_ | refine G.gdtt ?_ | refine G.gdff ?_ | refine G.gdtf ?_ | refine G.gdft ?_ | (refine G.jk ?_; intro _)))
  refine Gs.callv0 (got_ok 1 0 0 h) ?_
  refine Gs.callv0 (frac_ok 1 0 h) ?_
  (repeat (first | refine G.add (by omega) ?_ | refine G.sub (by omega) ?_ | refine G.mul (by omega) ?_ | refine G.neg (by omega) ?_ | refine G.quo (by omega) (by omega) ?_ | refine G.rem (by omega) ?_ | refine G.shr (by omega) ?_ | refine G.conv (by omega) ?_ | refine G.step ?_ | refine G.buildA (by rfl) ?_ | (refine Gs.box ?_; intro _) | (refine Gs.alloc ?_; intro _) | refine Gs.store ?_ | refine G.retc ?_ | refine Gs.dr ?_ | refine G.qadd (by omega) ?_ | refine G.qsub (by omega) ?_ | refine G.qmul (by omega) ?_ | refine G.qkp ?_ | refine Gs.qkb ?_ | refine G.withT ?_ | refine Gs.withb ?_ | refine G.ift ?_ | refine G.iff ?_ | refine G.gdtt ?_ | refine G.gdff ?_ | refine G.gdtf ?_ | refine G.gdft ?_ | (refine G.jk ?_; intro _)))
  (repeat (first | refine G.add (by omega) ?_ | refine G.sub (by omega) ?_ | refine G.mul (by omega) ?_ | refine G.neg (by omega) ?_ | refine G.quo (by omega) (by omega) ?_ | refine G.rem (by omega) ?_ | refine G.shr (by omega) ?_ | refine G.conv (by omega) ?_ | refine G.step ?_ | refine G.buildA (by rfl) ?_ | (refine Gs.box ?_; intro _) | (refine Gs.alloc ?_; intro _) | refine Gs.store ?_ | refine G.retc ?_ | refine Gs.dr ?_ | refine G.qadd (by omega) ?_ | refine G.qsub (by omega) ?_ | refine G.qmul (by omega) ?_ | refine G.qkp ?_ | refine Gs.qkb ?_ | refine G.withT ?_ | refine Gs.withb ?_ | refine G.ift ?_ | refine G.iff ?_ | refine G.gdtt ?_ | refine G.gdff ?_ | refine G.gdtf ?_ | refine G.gdft ?_ | (refine G.jk ?_; intro _)))
  refine Gs.callv0 (frac_ok 1 1 h) ?_
  refine Gs.callv0 (neg_ok 1 1 h (by decide) (by decide)) ?_
  refine Gs.callv0 (frac_ok (-1) 1 h) ?_
  (repeat (first | refine G.add (by omega) ?_ | refine G.sub (by omega) ?_ | refine G.mul (by omega) ?_ | refine G.neg (by omega) ?_ | refine G.quo (by omega) (by omega) ?_ | refine G.rem (by omega) ?_ | refine G.shr (by omega) ?_ | refine G.conv (by omega) ?_ | refine G.step ?_ | refine G.buildA (by rfl) ?_ | (refine Gs.box ?_; intro _) | (refine Gs.alloc ?_; intro _) | refine Gs.store ?_ | refine G.retc ?_ | refine Gs.dr ?_ | refine G.qadd (by omega) ?_ | refine G.qsub (by omega) ?_ | refine G.qmul (by omega) ?_ | refine G.qkp ?_ | refine Gs.qkb ?_ | refine G.withT ?_ | refine Gs.withb ?_ | refine G.ift ?_ | refine G.iff ?_ | refine G.gdtt ?_ | refine G.gdff ?_ | refine G.gdtf ?_ | refine G.gdft ?_ | (refine G.jk ?_; intro _)))
  (repeat (first | refine G.add (by omega) ?_ | refine G.sub (by omega) ?_ | refine G.mul (by omega) ?_ | refine G.neg (by omega) ?_ | refine G.quo (by omega) (by omega) ?_ | refine G.rem (by omega) ?_ | refine G.shr (by omega) ?_ | refine G.conv (by omega) ?_ | refine G.step ?_ | refine G.buildA (by rfl) ?_ | (refine Gs.box ?_; intro _) | (refine Gs.alloc ?_; intro _) | refine Gs.store ?_ | refine G.retc ?_ | refine Gs.dr ?_ | refine G.qadd (by omega) ?_ | refine G.qsub (by omega) ?_ | refine G.qmul (by omega) ?_ | refine G.qkp ?_ | refine Gs.qkb ?_ | refine G.withT ?_ | refine Gs.withb ?_ | refine G.ift ?_ | refine G.iff ?_ | refine G.gdtt ?_ | refine G.gdff ?_ | refine G.gdtf ?_ | refine G.gdft ?_ | (refine G.jk ?_; intro _)))
  refine Gs.callv0 (frac_ok 1 1 h) ?_
  refine Gs.callv0 (frac_ok 1 0 h) ?_
  refine Gs.callr (args' := [Fr2 1 ((1 : Nat) : Int), Fr2 1 ((0 : Nat) : Int)]) (r' := I (-1)) rfl (by rw [show cmpF 1 1 1 0 = -1 by decide +kernel]) (compare_ok 1 1 1 0 h (v_1 _ _ (by decide +kernel)) (v_1 _ _ (by decide +kernel))) ?_
  (repeat (first | refine G.add (by omega) ?_ | refine G.sub (by omega) ?_ | refine G.mul (by omega) ?_ | refine G.neg (by omega) ?_ | refine G.quo (by omega) (by omega) ?_ | refine G.rem (by omega) ?_ | refine G.shr (by omega) ?_ | refine G.conv (by omega) ?_ | refine G.step ?_ | refine G.buildA (by rfl) ?_ | (refine Gs.box ?_; intro _) | (refine Gs.alloc ?_; intro _) | refine Gs.store ?_ | refine G.retc ?_ | refine Gs.dr ?_ | refine G.qadd (by omega) ?_ | refine G.qsub (by omega) ?_ | refine G.qmul (by omega) ?_ | refine G.qkp ?_ | refine Gs.qkb ?_ | refine G.withT ?_ | refine Gs.withb ?_ | refine G.ift ?_ | refine G.iff ?_ | refine G.gdtt ?_ | refine G.gdff ?_ | refine G.gdtf ?_ | refine G.gdft ?_ | (refine G.jk ?_; intro _)))
  (repeat (first | refine G.add (by omega) ?_ | refine G.sub (by omega) ?_ | refine G.mul (by omega) ?_ | refine G.neg (by omega) ?_ | refine G.quo (by omega) (by omega) ?_ | refine G.rem (by omega) ?_ | refine G.shr (by omega) ?_ | refine G.conv (by omega) ?_ | refine G.step ?_ | refine G.buildA (by rfl) ?_ | (refine Gs.box ?_; intro _) | (refine Gs.alloc ?_; intro _) | refine Gs.store ?_ | refine G.retc ?_ | refine Gs.dr ?_ | refine G.qadd (by omega) ?_ | refine G.qsub (by omega) ?_ | refine G.qmul (by omega) ?_ | refine G.qkp ?_ | refine Gs.qkb ?_ | refine G.withT ?_ | refine Gs.withb ?_ | refine G.ift ?_ | refine G.iff ?_ | refine G.gdtt ?_ | refine G.gdff ?_ | refine G.gdtf ?_ | refine G.gdft ?_ | (refine G.jk ?_; intro _)))
  refine Gs.callv0 (frac_ok 0 0 h) ?_
  refine Gs.callv0 (valid_ok 0 0 h) ?_
  refine G.gdby (by decide +kernel) ?_
  refine Gs.callv0 (frac_ok 2 1 h) ?_
  refine Gs.callv0 (valid_ok 2 1 h) ?_
  (repeat (first | refine G.add (by omega) ?_ | refine G.sub (by omega) ?_ | refine G.mul (by omega) ?_ | refine G.neg (by omega) ?_ | refine G.quo (by omega) (by omega) ?_ | refine G.rem (by omega) ?_ | refine G.shr (by omega) ?_ | refine G.conv (by omega) ?_ | refine G.step ?_ | refine G.buildA (by rfl) ?_ | (refine Gs.box ?_; intro _) | (refine Gs.alloc ?_; intro _) | refine Gs.store ?_ | refine G.retc ?_ | refine Gs.dr ?_ | refine G.qadd (by omega) ?_ | refine G.qsub (by omega) ?_ | refine G.qmul (by omega) ?_ | refine G.qkp ?_ | refine Gs.qkb ?_ | refine G.withT ?_ | refine Gs.withb ?_ | refine G.ift ?_ | refine G.iff ?_ | refine G.gdtt ?_ | refine G.gdff ?_ | refine G.gdtf ?_ | refine G.gdft ?_ | (refine G.jk ?_; intro _)))
  exact Gs.ret (by rw [show validB 2 1 = false by decide +kernel]; rfl)
end Go.Proofs.YtcapijkioaocmaaDoor
end

section
/-
  Plain laws of fractions, for the statements.
-/
set_option linter.unusedVariables false
set_option maxHeartbeats 1000000
namespace Go.Proofs.YtcapijkioaocmaaDoor
open Go Go.Sk Go.Dy
theorem cmpI_lt {a b : Int} (h : a < b) : cmpI a b = -1 := by unfold cmpI; rw [if_pos h]
theorem cmpI_gt {a b : Int} (h : b < a) : cmpI a b = 1 := by unfold cmpI; rw [if_neg (by omega), if_pos h]
theorem cmpI_self (a : Int) : cmpI a a = 0 := by unfold cmpI; rw [if_neg (by omega), if_neg (by omega)]
theorem cmpI_cases (a b : Int) : (a < b ∧ cmpI a b = -1) ∨ (a = b ∧ cmpI a b = 0) ∨ (b < a ∧ cmpI a b = 1) := by
  rcases Int.lt_trichotomy a b with h | h | h
  · exact .inl ⟨h, cmpI_lt h⟩
  · exact .inr (.inl ⟨h, by rw [h]; exact cmpI_self b⟩)
  · exact .inr (.inr ⟨h, cmpI_gt h⟩)
theorem val_inj {n : Int} {e : Nat} {m : Int} {f : Nat} (h : Valid n e) (h' : Valid m f) (hv : val n e = val m f) : n = m ∧ e = f := by
  have a := norm_val n e h
  have b := norm_val m f h'
  rw [hv, b] at a
  simp only [Prod.mk.injEq] at a
  omega
theorem made_up (n : Int) (e k : Nat) (h : Valid n e) (hk : e + k ≤ 62) : made (n * 2 ^ k) ((e + k : Nat) : Int) = (n, (e : Int), 0) := by
  rw [made_of hk ((strip_mul k e n).trans (strip_of_odd e n h.2.2.2)), if_pos ((validB_iff n e).2 h)]
theorem made_self (n : Int) (e : Nat) (h : Valid n e) : made n e = (n, (e : Int), 0) := by
  have := made_up n e 0 h (by have := h.1; omega)
  rwa [Int.pow_zero, Int.mul_one] at this
theorem made_half (n : Int) (e : Nat) (h : Valid n e) : (e = 30 ∧ made n ((e + 1 : Nat) : Int) = (0, 0, 190)) ∨ (e < 30 ∧ ∃ p i, Valid p i ∧ val p i + val p i = val n e ∧ made n ((e + 1 : Nat) : Int) = (p, (i : Int), 0)) := by
  obtain ⟨he, h1, h2, h3⟩ := h
  by_cases h30 : e = 30
  · left
    refine ⟨h30, ?_⟩
    subst h30
    have ho : n % 2 = 1 := by omega
    rw [made_of (k := 31) (by decide) (strip_of_odd 31 n (.inr ho)), if_neg]
    rw [validB_iff]
    unfold Valid
    omega
  · right
    refine ⟨by omega, ?_⟩
    rw [made_norm n (e + 1) (by omega)]
    have hval : val n (e + 1) + val n (e + 1) = val n e := by
      unfold val
      rw [show 30 - e = (30 - (e + 1)) + 1 by omega, Int.pow_succ, ← Int.mul_assoc]
      generalize n * 2 ^ (30 - (e + 1)) = z
      omega
    rcases norm_cases (val n (e + 1)) with ⟨p, i, hv, hpi, hn⟩ | ⟨hn, hno⟩
    · exact ⟨p, i, hv, by rw [hpi, hval], hn⟩
    · exfalso
      rcases Int.emod_two_eq n with h4 | h4
      · have he0 : e = 0 := by omega
        subst he0
        refine hno (n / 2) 0 ⟨by omega, by omega, by omega, .inl rfl⟩ ?_
        have h5 := val_succ (n / 2) 0 (by decide)
        rw [← h5]
        congr 1
        omega
      · exact hno n (e + 1) ⟨by omega, h1, h2, .inr h4⟩ rfl
theorem parseS_cases (l : List UInt8) : (∃ n e, Valid n e ∧ txt n e = l ∧ parseS l = (n, (e : Int), 0)) ∨ ((∀ n e, Valid n e → txt n e ≠ l) ∧ parseS l = (0, 0, 3)) := by
  by_cases h : ∃ n e, Valid n e ∧ txt n e = l
  · obtain ⟨n, e, hv, ht⟩ := h
    exact .inl ⟨n, e, hv, ht, by rw [← ht]; exact parseS_txt n e hv⟩
  · have h' : ∀ n e, Valid n e → txt n e ≠ l := fun n e hv ht => h ⟨n, e, hv, ht⟩
    exact .inr ⟨h', parseS_no l h'⟩
theorem txt_len (n : Int) (e : Nat) (h : Valid n e) : (txt n e).length ≤ 50 := by
  obtain ⟨he, h1, h2, _⟩ := h
  have hp := two_pow_pos e
  have hb : (2 : Int) ^ e ≤ 1073741824 := by have := two_pow_le he; simpa using this
  have hl1 := Lib.itoa_length_le n (by omega) (by omega)
  have hl2 := Lib.itoa_length_le (2 ^ e) (by omega) (by omega)
  unfold txt
  split
  · omega
  · simp; omega
theorem btw_spec (A B : Int) : (∃ x : Nat, x ≤ 30 ∧ lowX A x ≤ highX B x ∧ (∀ y, y < x → highX B y < lowX A y) ∧ btw A B = (near (lowX A x) (highX B x), (x : Int), 0)) ∨ ((∀ y, y ≤ 30 → highX B y < lowX A y) ∧ btw A B = (0, 0, 190)) := by
  have key : ∀ (f x : Nat), f + x = 31 → (∀ y, y < x → highX B y < lowX A y) → (∃ z : Nat, z ≤ 30 ∧ lowX A z ≤ highX B z ∧ (∀ y, y < z → highX B y < lowX A y) ∧ btwF A B f x = (near (lowX A z) (highX B z), (z : Int), 0)) ∨ ((∀ y, y ≤ 30 → highX B y < lowX A y) ∧ btwF A B f x = (0, 0, 190)) := by
    intro f
    induction f with
    | zero =>
      intro x hx hy
      exact .inr ⟨fun y h => hy y (by omega), by unfold btwF; rfl⟩
    | succ f ih =>
      intro x hx hy
      rw [btwF_succ]
      split
      · rename_i h
        exact .inl ⟨x, by omega, h, hy, rfl⟩
      · rename_i h
        exact ih (x + 1) (by omega) (fun y h' => by
          rcases Nat.lt_or_ge y x with h2 | h2
          · exact hy y h2
          · have : y = x := by omega
            subst this
            omega)
  exact key 31 0 rfl (fun y h => absurd h (Nat.not_lt_zero y))
/-- The fraction between, and those that are not. -/
theorem btw_facts (A B : Int) : (∃ (g : Int) (x : Nat), Valid g x ∧ A < val g x ∧ val g x < B ∧ btw A B = (g, (x : Int), 0) ∧
      (∀ n y, y < x → Valid n y → ¬ (A < val n y ∧ val n y < B)) ∧
      (0 < g → ∀ n, n < g → (x = 0 ∨ n % 2 = 1) → ¬ (A < val n x ∧ val n x < B ∧ Valid n x)) ∧ (g < 0 → ∀ n, g < n → (x = 0 ∨ n % 2 = 1) → ¬ (A < val n x ∧ val n x < B ∧ Valid n x))) ∨
    (btw A B = (0, 0, 190) ∧ ∀ n y, Valid n y → ¬ (A < val n y ∧ val n y < B)) := by
  rcases btw_spec A B with ⟨x, hx, hle, hno, hb⟩ | ⟨hno, hb⟩
  · left
    have ho : x = 0 ∨ (lowX A x = highX B x ∧ lowX A x % 2 = 1) := by
      rcases Nat.eq_zero_or_pos x with h | h
      · exact .inl h
      · obtain ⟨y, rfl⟩ : ∃ y, x = y + 1 := ⟨x - 1, by omega⟩
        exact .inr (one_only A B y (by omega) (hno y (by omega)) hle)
    obtain ⟨v1, v2, v3⟩ := validB_near (lowX A x) (highX B x) x hle (lowX_bd A x) (highX_bd B x) hx ho
    have hnr : near (lowX A x) (highX B x) = if 0 < lowX A x then lowX A x else if highX B x < 0 then highX B x else 0 := by unfold near; rfl
    generalize hg : near (lowX A x) (highX B x) = g at *
    have hV := (validB_iff g x).1 v1
    have hin := (inX A B g x hx).1 ⟨v2, v3⟩
    refine ⟨g, x, hV, hin.1, hin.2.1, hb, ?_, ?_, ?_⟩
    · intro n y hy hv hc
      have h2 := (inX A B n y (by omega)).2 ⟨hc.1, hc.2, hv.2.1, hv.2.2.1⟩
      have h3 := hno y hy
      omega
    · intro hg0 n hn _ hc
      have h2 := (inX A B n x hx).2 ⟨hc.1, hc.2.1, hc.2.2.2.1, hc.2.2.2.2.1⟩
      split at hnr
      · omega
      · split at hnr <;> omega
    · intro hg0 n hn _ hc
      have h2 := (inX A B n x hx).2 ⟨hc.1, hc.2.1, hc.2.2.2.1, hc.2.2.2.2.1⟩
      split at hnr
      · omega
      · split at hnr <;> omega
  · right
    refine ⟨hb, ?_⟩
    intro n y hv hc
    have h2 := (inX A B n y hv.1).2 ⟨hc.1, hc.2, hv.2.1, hv.2.2.1⟩
    have h3 := hno y hv.1
    omega
def insB (n : Int) (e : Nat) (A B : Int) : Bool := validB n e && decide (cmpI A (val n e) < 0) && decide (cmpI (val n e) B < 0)
theorem insB_iff (n : Int) (e : Nat) (A B : Int) : insB n e A B = true ↔ Valid n e ∧ A < val n e ∧ val n e < B := by
  unfold insB
  rw [Bool.and_eq_true, Bool.and_eq_true, decide_eq_true_iff, decide_eq_true_iff, validB_iff]
  have h1 := cmpI_cases A (val n e)
  have h2 := cmpI_cases (val n e) B
  constructor
  · rintro ⟨⟨h3, h4⟩, h5⟩
    exact ⟨h3, by omega, by omega⟩
  · rintro ⟨h3, h4, h5⟩
    exact ⟨⟨h3, by omega⟩, by omega⟩
theorem insB_no {n : Int} {e : Nat} {A B : Int} (h : ¬ (Valid n e ∧ A < val n e ∧ val n e < B)) : insB n e A B = false := by
  cases hi : insB n e A B
  · rfl
  · exact absurd ((insB_iff n e A B).1 hi) h
theorem mul_bd (n p B Q : Int) (h1 : -B ≤ n) (h2 : n ≤ B) (h3 : 0 < p) (h4 : p ≤ Q) (hB : 0 ≤ B) : -(B * Q) ≤ n * p ∧ n * p ≤ B * Q := by
  have a1 : n * p ≤ B * p := Int.mul_le_mul_of_nonneg_right h2 (by omega)
  have a2 : -B * p ≤ n * p := Int.mul_le_mul_of_nonneg_right h1 (by omega)
  have a3 : B * p ≤ B * Q := Int.mul_le_mul_of_nonneg_left h4 hB
  rw [Int.neg_mul] at a2
  omega
attribute [irreducible] insB
end Go.Proofs.YtcapijkioaocmaaDoor
end

section
set_option linter.unusedVariables false
set_option maxHeartbeats 4000000
namespace Go.Proofs.YtcapijkioaocmaaDoor
open Go Go.Sk Go.Dy Go.RowKit
section
variable {w0 : World} {h0 h : Hp} {L : List Itm} {K : Value → WP} {n m : Int} {e f : Nat} {R : Int × Int × Int}
theorem add_call (V1 : Valid n e) (V2 : Valid m f) (ht : TzTab h) (hR : norm (val n e + val m f) = R) (hk : Gs w0 h0 h L (K (Two R))) : Gs w0 h0 h L (Do Tryd.prog (vCall (.func (.func 19) #[] ⟨[]⟩) [Fr2 n e, Fr2 m f]) K) :=
  Gs.callr rfl (by rw [hR]) (Add_ok n e m f h V1 V2 ht) hk
theorem radd_call (V1 : Valid n e) (V2 : Valid m f) (hR : norm (val n e + val m f) = R) (hk : Gs w0 h0 h L (K (Two R))) : Gs w0 h0 h L (Do Tryd.prog (vCall (.func (.func 20) #[] ⟨[]⟩) [Fr2 n e, Fr2 m f]) K) :=
  Gs.callr rfl (by rw [hR]) (rAdd_ok n e m f h V1 V2) hk
theorem btw_call (V1 : Valid n e) (V2 : Valid m f) (hR : btw (val n e) (val m f) = R) (hk : Gs w0 h0 h L (K (Two R))) : Gs w0 h0 h L (Do Tryd.prog (vCall (.func (.func 25) #[] ⟨[]⟩) [Fr2 n e, Fr2 m f]) K) :=
  Gs.callr rfl (by rw [hR]) (Between_ok n e m f h V1 V2) hk
theorem rbtw_call (V1 : Valid n e) (V2 : Valid m f) (hR : btw (val n e) (val m f) = R) (hk : Gs w0 h0 h L (K (Two R))) : Gs w0 h0 h L (Do Tryd.prog (vCall (.func (.func 26) #[] ⟨[]⟩) [Fr2 n e, Fr2 m f]) K) :=
  Gs.callr rfl (by rw [hR]) (rBetween_ok n e m f h V1 V2) hk
theorem cmp_call {c : Int} (V1 : Valid n e) (V2 : Valid m f) (hR : cmpI (val n e) (val m f) = c) (hk : Gs w0 h0 h L (K (I c))) : Gs w0 h0 h L (Do Tryd.prog (vCall (.func (.func 23) #[] ⟨[]⟩) [Fr2 n e, Fr2 m f]) K) :=
  Gs.callr rfl (by rw [cmp_val n e m f V1.1 V2.1, hR]) (compare_ok n e m f h V1 V2) hk
theorem rcmp_call {c : Int} (V1 : Valid n e) (V2 : Valid m f) (hR : cmpI (val n e) (val m f) = c) (hk : Gs w0 h0 h L (K (I c))) : Gs w0 h0 h L (Do Tryd.prog (vCall (.func (.func 24) #[] ⟨[]⟩) [Fr2 n e, Fr2 m f]) K) :=
  Gs.callr rfl (by rw [cmp_val n e m f V1.1 V2.1, hR]) (rcompare_ok n e m f h V1 V2) hk
theorem neg_call (V1 : Valid n e) (hk : Gs w0 h0 h L (K (Fr2 (-n) e))) : Gs w0 h0 h L (Do Tryd.prog (vCall (.func (.func 21) #[] ⟨[]⟩) [Fr2 n e]) K) :=
  Gs.callv0 (neg_ok n e h (by have := V1.2.1; omega) (by have := V1.2.2.1; omega)) hk
theorem rneg_call (V1 : Valid n e) (hk : Gs w0 h0 h L (K (Fr2 (-n) e))) : Gs w0 h0 h L (Do Tryd.prog (vCall (.func (.func 22) #[] ⟨[]⟩) [Fr2 n e]) K) :=
  Gs.callv0 (rneg_ok n e h (by have := V1.2.1; omega) (by have := V1.2.2.1; omega)) hk
theorem valid_call {b : Bool} {x : Int} (hR : validB n x = b) (hk : Gs w0 h0 h L (K (.bool b))) : Gs w0 h0 h L (Do Tryd.prog (vCall (.func (.func 16) #[] ⟨[]⟩) [Fr2 n x]) K) :=
  Gs.callr rfl (by rw [hR]) (valid_ok n x h) hk
theorem rvalid_call {b : Bool} {x : Int} (hR : validB n x = b) (hk : Gs w0 h0 h L (K (.bool b))) : Gs w0 h0 h L (Do Tryd.prog (vCall (.func (.func 18) #[] ⟨[]⟩) [Fr2 n x]) K) :=
  Gs.callr rfl (by rw [hR]) (rvalid_ok n x h) hk
theorem make_call {x : Int} (hn : -9223372036854775808 ≤ n) (hn' : n ≤ 9223372036854775807) (ht : TzTab h) (hR : made n x = R) (hk : Gs w0 h0 h L (K (Two R))) : Gs w0 h0 h L (Do Tryd.prog (vCall (.func (.func 14) #[] ⟨[]⟩) [I n, I x]) K) :=
  Gs.callr rfl (by rw [hR]) (make_ok n x h hn hn' ht) hk
theorem rmake_call {x : Int} (hn : -9223372036854775808 ≤ n) (hn' : n ≤ 9223372036854775807) (hR : made n x = R) (hk : Gs w0 h0 h L (K (Two R))) : Gs w0 h0 h L (Do Tryd.prog (vCall (.func (.func 15) #[] ⟨[]⟩) [I n, I x]) K) :=
  Gs.callr rfl (by rw [hR]) (rmake_ok n x h hn hn') hk
theorem got_call {x c : Int} (hk : Gs w0 h0 h L (K (.agg #[I n, I x, I c]))) : Gs w0 h0 h L (Do Tryd.prog (vCall (.func (.func 13) #[] ⟨[]⟩) [Fr2 n x, I c]) K) := Gs.callv0 (got_ok n x c h) hk
theorem frac_call {x : Int} (hk : Gs w0 h0 h L (K (Fr2 n x))) : Gs w0 h0 h L (Do Tryd.prog (vCall (.func (.func 17) #[] ⟨[]⟩) [I n, I x]) K) := Gs.callv0 (frac_ok n x h) hk
theorem print_call {l : List UInt8} (V1 : Valid n e) (hE : Env h) (hR : txt n e = l) (hk : Gs w0 h0 h L (K (Str l))) : Gs w0 h0 h L (Do Tryd.prog (vCall (.func (.func 27) #[] ⟨[]⟩) [Fr2 n e]) K) :=
  Gs.callr rfl (by rw [hR]) (Print_ok n e h hE (by have := V1.1; omega) (by have := V1.2.1; omega) (by have := V1.2.2.1; omega)) hk
theorem rprint_call {l : List UInt8} (V1 : Valid n e) (hR : txt n e = l) (hk : Gs w0 h0 h L (K (Str l))) : Gs w0 h0 h L (Do Tryd.prog (vCall (.func (.func 28) #[] ⟨[]⟩) [Fr2 n e]) K) :=
  Gs.callr rfl (by rw [hR]) (rPrint_ok n e h (by have := V1.1; omega) (by have := V1.2.1; omega) (by have := V1.2.2.1; omega)) hk
theorem parse_call {l : List UInt8} (hl : l.length ≤ 4294967000) (hE : Env h) (hR : parseS l = R) (hk : Gs w0 h0 h L (K (Two R))) : Gs w0 h0 h L (Do Tryd.prog (vCall (.func (.func 29) #[] ⟨[]⟩) [Str l]) K) :=
  Gs.callr rfl (by rw [hR]) (Parse_ok l h hl hE) hk
theorem rparse_call {l : List UInt8} (hl : l.length ≤ 4294967000) (hR : parseS l = R) (hk : Gs w0 h0 h L (K (Two R))) : Gs w0 h0 h L (Do Tryd.prog (vCall (.func (.func 30) #[] ⟨[]⟩) [Str l]) K) :=
  Gs.callr rfl (by rw [hR]) (rParse_ok l h hl) hk
theorem sanity_call (hE : Env h) (hk : Gs w0 h0 h L (K (.bool true))) : Gs w0 h0 h L (Do Tryd.prog (vCall (.func (.func 11) #[] ⟨[]⟩) []) K) := Gs.callv0 (sanity_ok h hE) hk
theorem Frac_call {a x b : Int} (ha : -2147483648 ≤ a ∧ a ≤ 2147483647) (hx : 0 ≤ x ∧ x ≤ 255) (hb : 0 ≤ b ∧ b ≤ 255) (hk : ∀ n e, Valid n e → rawF a x b = (n, e) → Gs w0 h0 h L (K (Fr2 n e))) : Gs w0 h0 h L (Do Tryd.prog (vCall (.func (.func 12) #[] ⟨[]⟩) [Raw a x b]) K) :=
  Gs.callv0 (Frac_ok a x b h ha hx hb) (hk _ _ (rawF_valid a x b) rfl)
end
theorem V0 : Valid 0 0 := v_1 0 0 (by decide +kernel)
theorem Vneg {n : Int} {e : Nat} (h : Valid n e) : Valid (-n) e := by unfold Valid at *; omega
theorem vB {n : Int} {e : Nat} (h : Valid n e) : validB n e = true := (validB_iff n e).2 h
structure RawIn (a x b : Int) : Prop where
  a : -2147483648 ≤ a ∧ a ≤ 2147483647
  x : 0 ≤ x ∧ x ≤ 255
  b : 0 ≤ b ∧ b ≤ 255
end Go.Proofs.YtcapijkioaocmaaDoor
end

