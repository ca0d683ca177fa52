/-
  Lemmas for the proof of the statement of this claim: a part of the road, no statement of its own. Conditions: those that each lemma names.
-/
import Derived.Test.YtgdochemlbjnlaaGreatKa
import Derived.Laws.StructEq
import Derived.Laws.Strings
import Derived.Laws.Strings3
import Derived.Laws.Concat
import Derived.Laws.IdiomStrings
import Derived.LaidEql
section
/-
  The operations: quotients, shifts, bits, conversions; readings taken first; strings.
-/
set_option linter.unusedVariables false
set_option linter.unusedSimpArgs false
namespace Go.Sk
open Go Go.RowKit
variable {M : Mode}

section
variable {P : Program} {S : WP} {K : Value → WP}
theorem tdiv_in {a b : Int} (hb : 0 < b) (ha : -9223372036854775808 ≤ a ∧ a ≤ 9223372036854775807) : -9223372036854775808 ≤ a.tdiv b ∧ a.tdiv b ≤ 9223372036854775807 := by
  rcases Int.le_total 0 a with h | h
  · have h1 := Int.tdiv_nonneg h (Int.le_of_lt hb)
    have h2 := Int.tdiv_le_self (b := b) h
    omega
  · have e : a.tdiv b = -((-a).tdiv b) := by rw [Int.neg_tdiv, Int.neg_neg]
    have h1 := Int.tdiv_nonneg (a := -a) (by omega) (Int.le_of_lt hb)
    have h2 := Int.tdiv_le_self (a := -a) (b := b) (by omega)
    omega
theorem G.quo {t : TypeId} {a b : Int} (hb : 0 < b) (ha : -9223372036854775808 ≤ a ∧ a ≤ 9223372036854775807) (hk : G S (K (I (a.tdiv b)))) : G S (Do P (V (binOp .quo t (I a) (I b))) K) :=
  haveI : Yd P S (V (binOp .quo t (I a) (I b))) (I (a.tdiv b)) := Yd.of fun w => by
    simp only [binOp, ne_eq, not_true, if_false, Op.intDiv, if_neg (show ¬ b = 0 by omega), wrap_in (tdiv_in hb ha)]
    rfl
  G.step hk
theorem G.rem {t : TypeId} {a b : Int} (hb : b ≠ 0) (hk : G S (K (I (a.tmod b)))) : G S (Do P (V (binOp .rem t (I a) (I b))) K) :=
  haveI : Yd P S (V (binOp .rem t (I a) (I b))) (I (a.tmod b)) := Yd.of fun w => by
    simp only [binOp, ne_eq, not_true, if_false, Op.intDiv, if_neg hb]
    rfl
  G.step hk
theorem Yd.quo {t : TypeId} {a b : Int} (hb : 0 < b) (ha : -9223372036854775808 ≤ a ∧ a ≤ 9223372036854775807) : Yd P S (V (binOp .quo t (I a) (I b))) (I (a.tdiv b)) := Yd.of fun w => by
    simp only [binOp, ne_eq, not_true, if_false, Op.intDiv, if_neg (show ¬ b = 0 by omega), wrap_in (tdiv_in hb ha)]
    rfl
theorem Yd.rem {t : TypeId} {k : IntKind} {a b : Int} (hb : b ≠ 0) : Yd P S (V (binOp .rem t (.int k a) (.int k b))) (.int k (a.tmod b)) := Yd.of fun w => by
    simp only [binOp, ne_eq, not_true, if_false, Op.intDiv, if_neg hb]
    rfl
theorem Yd.shr {t : TypeId} {yk : IntKind} {a y : Int} (hy : 0 ≤ y ∧ y ≤ 63) : Yd P S (V (binOp .shr t (I a) (.int yk y))) (I (a / 2 ^ y.toNat)) := Yd.of fun w => by
    have hm : min y.toNat IntKind.i64.bits = y.toNat := by
      show min y.toNat 64 = _
      omega
    simp only [binOp, Op.shift, if_neg (show ¬ y < 0 by omega), hm]
    have : a.fdiv (2 ^ y.toNat) = a / 2 ^ y.toNat := Int.fdiv_eq_ediv_of_nonneg _ (Int.le_of_lt (Int.pow_pos (by decide)))
    rw [this]
    rfl
theorem Yd.shl {t : TypeId} {yk : IntKind} {a y : Int} (hy : 0 ≤ y ∧ y ≤ 63) (hr : -9223372036854775808 ≤ a * 2 ^ y.toNat ∧ a * 2 ^ y.toNat ≤ 9223372036854775807) : Yd P S (V (binOp .shl t (I a) (.int yk y))) (I (a * 2 ^ y.toNat)) := Yd.of fun w => by
    have hm : min y.toNat IntKind.i64.bits = y.toNat := by
      show min y.toNat 64 = _
      omega
    simp only [binOp, Op.shift, if_neg (show ¬ y < 0 by omega), hm, wrap_in hr]
    rfl
theorem G.shr {t : TypeId} {yk : IntKind} {a y : Int} (hy : 0 ≤ y ∧ y ≤ 63) (hk : G S (K (I (a / 2 ^ y.toNat)))) : G S (Do P (V (binOp .shr t (I a) (.int yk y))) K) :=
  haveI := Yd.shr (P := P) (S := S) (t := t) (yk := yk) (a := a) hy
  G.step hk
theorem G.shl {t : TypeId} {yk : IntKind} {a y : Int} (hy : 0 ≤ y ∧ y ≤ 63) (hr : -9223372036854775808 ≤ a * 2 ^ y.toNat ∧ a * 2 ^ y.toNat ≤ 9223372036854775807) (hk : G S (K (I (a * 2 ^ y.toNat)))) : G S (Do P (V (binOp .shl t (I a) (.int yk y))) K) :=
  haveI := Yd.shl (P := P) (S := S) (t := t) (yk := yk) (a := a) hy hr
  G.step hk

theorem land_mask (a : Int) (k : Nat) (hk : k ≤ 62) : IntKind.i64.wrap ((BitVec.ofInt 64 a &&& BitVec.ofInt 64 (2 ^ k - 1)).toNat : Int) = a % 2 ^ k := by
  have hp : (2 : Nat) ^ k ≤ 2 ^ 62 := Nat.pow_le_pow_right (by decide) hk
  have hpos : 0 < (2 : Nat) ^ k := Nat.pow_pos (by decide)
  have e1 : (BitVec.ofInt 64 (2 ^ k - 1)).toNat = 2 ^ k - 1 := by
    have : ((2 : Int) ^ k - 1) = ((2 ^ k - 1 : Nat) : Int) := by
      rw [Int.ofNat_sub hpos]; simp
    rw [this, BitVec.ofInt_natCast, BitVec.toNat_ofNat]
    exact Nat.mod_eq_of_lt (by omega)
  rw [BitVec.toNat_and, e1, Nat.and_two_pow_sub_one_eq_mod, BitVec.toNat_ofInt]
  have h64 : ((2 : Nat) ^ 64 : Int) = 18446744073709551616 := by decide
  have e2 : (((a % ((2 ^ 64 : Nat) : Int)).toNat % 2 ^ k : Nat) : Int) = a % 2 ^ k := by
    have hn : 0 ≤ a % ((2 ^ 64 : Nat) : Int) := Int.emod_nonneg _ (by decide)
    rw [Int.natCast_emod, Int.toNat_of_nonneg hn]
    have hd : ((2 : Int) ^ k) ∣ ((2 ^ 64 : Nat) : Int) := by
      refine ⟨2 ^ (64 - k), ?_⟩
      rw [← Int.pow_add]
      have : k + (64 - k) = 64 := by omega
      rw [this]; decide
    have : ((2 ^ k : Nat) : Int) = (2 : Int) ^ k := by simp
    rw [this]
    exact Int.emod_emod_of_dvd a hd
  rw [e2]
  have h1 : 0 ≤ a % 2 ^ k := Int.emod_nonneg _ (by have := Int.pow_pos (n := 2) (m := k) (by decide); omega)
  have h2 : a % 2 ^ k < 2 ^ k := Int.emod_lt_of_pos _ (Int.pow_pos (by decide))
  have h3 : ((2 : Int) ^ k) ≤ 2 ^ 62 := by exact_mod_cast hp
  have h4 : ((2 : Int) ^ 62) = 4611686018427387904 := by decide
  exact wrap_in ⟨by omega, by omega⟩

theorem Yd.land {t : TypeId} {a b : Int} (k : Nat) (hk : k ≤ 62) (hb : b = 2 ^ k - 1) : Yd P S (V (binOp .and t (I a) (I b))) (I (a % 2 ^ k)) := Yd.of fun w => by
    subst hb
    have := land_mask a k hk
    simp only [binOp, ne_eq, not_true, if_false, Op.intBits]
    show Sem.run P (Sem.pure _) w = _
    simp only [Sem.run]
    exact congrArg (fun x => Result.ok (Value.int .i64 x) w) this
theorem G.land {t : TypeId} {a b : Int} (k : Nat) (hk : k ≤ 62) (hb : b = 2 ^ k - 1) (h : G S (K (I (a % 2 ^ k)))) : G S (Do P (V (binOp .and t (I a) (I b))) K) :=
  haveI := Yd.land (P := P) (S := S) (t := t) (a := a) k hk hb
  G.step h

/-! ### Conversions between integers -/
instance Yd.conv {s d : TypeId} {k k' : IntKind} {n : Int} [h1 : TInt P s k'] [h : TInt P d k] : Yd P S (V (convert s d (.int k' n))) (.int k (k.wrap n)) := Yd.of fun w => by
  have h1 := h1.ok
  have h := h.ok
  unfold intB at h h1
  cases hs : P.underlying s with
  | none => rw [hs] at h1; cases h1
  | some ds =>
    cases hu : P.underlying d with
    | none => rw [hu] at h; cases h
    | some dd =>
      rw [hu] at h; rw [hs] at h1
      cases dd <;> try (cases h; done)
      cases ds <;> try (cases h1; done)
      simp only [beq_iff_eq] at h
      subst h
      unfold convert
      simp only [Sem.run_bind, runU hs, runU hu, Result.andThen_ok]
      rfl
theorem G.conv {s d : TypeId} {k' : IntKind} {n : Int} [h1 : TInt P s k'] [h : TInt P d .i64] (hr : -9223372036854775808 ≤ n ∧ n ≤ 9223372036854775807) (hk : G S (K (I n))) : G S (Do P (V (convert s d (.int k' n))) K) :=
  G.step (v := .int .i64 (IntKind.i64.wrap n)) (by rw [wrap_in hr]; exact hk)

/-! ### The built-ins on integers -/
theorem run_vB {b : Builtin} {ts : Array TypeId} {t : TypeId} {args : List Value} {s : Sem Value} {v : Value} {w : World} (he : vBuiltin b ts t args = V s) (h : s.run P w = .ok v w) : (vBuiltin b ts t args).run P w = .ok (.value v) w := by
  rw [he]; exact V_run h
instance Yd.min2 {ts : Array TypeId} {t : TypeId} {k : IntKind} {a b : Int} : Yd P S (vBuiltin .min ts t [.int k a, .int k b]) (.int k (min a b)) := ⟨fun w _ => by
  refine run_vB (s := Builtin.min_ ts t #[.int k a, .int k b]) rfl ?_
  unfold Builtin.min_
  simp only [List.foldlM_cons, List.foldlM_nil, Builtin.min2, bind_pure, pure, Sem.run]
  simp only [Int.min_def]
  show Sem.run P (Sem.bind _ _) w = _
  simp only [Sem.bind, Sem.run]
  by_cases h : b < a
  · rw [if_pos h, if_neg (by omega)]
  · rw [if_neg h, if_pos (by omega)]⟩
instance Yd.max2 {ts : Array TypeId} {t : TypeId} {k : IntKind} {a b : Int} : Yd P S (vBuiltin .max ts t [.int k a, .int k b]) (.int k (max a b)) := ⟨fun w _ => by
  refine run_vB (s := Builtin.max_ ts t #[.int k a, .int k b]) rfl ?_
  unfold Builtin.max_
  simp only [List.foldlM_cons, List.foldlM_nil, Builtin.max2, bind_pure, pure, Sem.run]
  simp only [Int.max_def]
  show Sem.run P (Sem.bind _ _) w = _
  simp only [Sem.bind, Sem.run]
  by_cases h : b > a
  · rw [if_pos h, if_pos (by omega)]
  · rw [if_neg h]
    by_cases h2 : a ≤ b
    · rw [if_pos h2]; have : a = b := by omega
      rw [this]
    · rw [if_neg h2]⟩
end

/-! ### Readings that are taken first -/
def BlkC (b : Nat) (cs : List Value) (e : TypeId) : WP := fun w => w.heap[b]? = some (.cells cs.toArray e (0, 0))
def TrueC : WP := fun _ => True
section
variable {P : Program} {w0 : World} {h0 h : Hp} {L : List Itm} {K : WP → Value → WP} {v : Value} {s : Sem Next}
instance Yd.loadBlkC1 {t b o : Nat} {cs : List Value} {e : TypeId} {v : Value} [TOne P t] [hn : Nth cs o v] : Yd P (BlkC b cs e) (V (Instr.loadAt t (ptr b o))) v :=
  ⟨fun w s => loadAt_run (run_loadVar_one (by rw [cell_of s]; exact hn.ok))⟩
instance Yd.loadBlkCN {t b o n : Nat} {cs : List Value} {e : TypeId} {s : List Value} [TAgg P t n] [Subl cs o n s] : Yd P (BlkC b cs e) (V (Instr.loadAt t (ptr b o))) (.agg s.toArray) :=
  ⟨fun w st => loadAt_run (run_loadVar_agg st)⟩
theorem G.qkp {S : WP} [Yd P TrueC s v] (hk : G S (K TrueC v)) : G S (Qk P s K) := G.qk TrueC (fun _ _ => trivial) hk
theorem Gs.qkb {t b o : Nat} {cs : List Value} {e : TypeId} [hb : Blk L b cs e] [Yd P (BlkC b cs e) (V (Instr.loadAt t (ptr b o))) v] (hk : Gs w0 h0 h L (K (BlkC b cs e) v)) : Gs w0 h0 h L (Qk P (V (Instr.loadAt t (ptr b o))) K) :=
  G.qk (BlkC b cs e) (fun w s => s.blk hb.mem) hk
theorem G.withT {S X : WP} (hk : G S X) : G S (With TrueC X) := G.with (fun _ _ => trivial) hk
theorem Gs.withb {X : WP} {b : Nat} {cs : List Value} {e : TypeId} [hb : Blk L b cs e] (hk : Gs w0 h0 h L X) : Gs w0 h0 h L (With (BlkC b cs e) X) := G.with (fun w s => s.blk hb.mem) hk
theorem G.qadd {S : WP} {t : TypeId} {a b : Int} (hr : -9223372036854775808 ≤ a + b ∧ a + b ≤ 9223372036854775807) (hk : G S (K TrueC (I (a + b)))) : G S (Qk P (V (binOp .add t (I a) (I b))) K) :=
  G.qkp (v := .int .i64 (IntKind.i64.wrap (a + b))) (by rw [wrap_in hr]; exact hk)
theorem G.qsub {S : WP} {t : TypeId} {a b : Int} (hr : -9223372036854775808 ≤ a - b ∧ a - b ≤ 9223372036854775807) (hk : G S (K TrueC (I (a - b)))) : G S (Qk P (V (binOp .sub t (I a) (I b))) K) :=
  G.qkp (v := .int .i64 (IntKind.i64.wrap (a - b))) (by rw [wrap_in hr]; exact hk)
theorem G.qmul {S : WP} {t : TypeId} {a b : Int} (hr : -9223372036854775808 ≤ a * b ∧ a * b ≤ 9223372036854775807) (hk : G S (K TrueC (I (a * b)))) : G S (Qk P (V (binOp .mul t (I a) (I b))) K) :=
  G.qkp (v := .int .i64 (IntKind.i64.wrap (a * b))) (by rw [wrap_in hr]; exact hk)
end

/-! ### Structs of integers compared -/
class EqTy (P : Program) (t : TypeId) (n : outParam Nat) : Prop where
  eq : ∀ (a b : List Value) (as bs : List Int) (w : World), a = as.map I → b = bs.map I → as.length = n → bs.length = n → (Op.equal t (.agg a.toArray) (.agg b.toArray)).run P w = .ok (decide (as = bs)) w
  guard : ∀ (a b : List Value) (op : BinOp) (x y : Operand) (w : World), (eqGuard op t x y (.agg a.toArray) (.agg b.toArray)).run P w = .ok () w
class Ints (l : List Value) (is : outParam (List Int)) : Prop where
  ok : l = is.map I
instance Ints.nil : Ints [] [] := ⟨rfl⟩
instance Ints.cons {n : Int} {r : List Value} {is : List Int} [h : Ints r is] : Ints (.int .i64 n :: r) (n :: is) := ⟨by simp [h.ok]⟩
class LenI (l : List Int) (n : Nat) : Prop where
  ok : l.length = n
instance LenI.nil : LenI [] 0 := ⟨rfl⟩
instance LenI.cons {x : Int} {r : List Int} {n : Nat} [h : LenI r n] : LenI (x :: r) (n + 1) := ⟨by simp [h.ok]⟩
section
variable {P : Program} {S : WP}
instance Yd.eqlS {t n : Nat} {x y : Operand} {a b : List Value} {as bs : List Int} [ht : EqTy P t n] [ha : Ints a as] [hb : Ints b bs] [la : LenI as n] [lb : LenI bs n] : Yd P S (V (EqG .eql t x y (.agg a.toArray) (.agg b.toArray))) (.bool (decide (as = bs))) := Yd.of fun w => by
  unfold EqG
  rw [Sem.run_bind, ht.guard, Result.andThen_ok]
  unfold binOp
  simp only [Sem.run_bind, ht.eq a b as bs w ha.ok hb.ok la.ok lb.ok, Result.andThen_ok]
  rfl
instance Yd.neqS {t n : Nat} {x y : Operand} {a b : List Value} {as bs : List Int} [ht : EqTy P t n] [ha : Ints a as] [hb : Ints b bs] [la : LenI as n] [lb : LenI bs n] : Yd P S (V (EqG .neq t x y (.agg a.toArray) (.agg b.toArray))) (.bool (decide (as ≠ bs))) := Yd.of fun w => by
  unfold EqG
  rw [Sem.run_bind, ht.guard, Result.andThen_ok]
  unfold binOp
  simp only [Sem.run_bind, ht.eq a b as bs w ha.ok hb.ok la.ok lb.ok, Result.andThen_ok]
  by_cases h : as = bs <;> simp [h, pure, Sem.run]
end

/-! ### Which types are structs of integers -/
def flatF (P : Program) (g : TypeId → Option Nat) : List Field → Nat → Option Nat
  | [], off => some off
  | f :: r, off => if f.name ≠ "_" ∧ f.offset = off then
      match g f.type, P.info? f.type with
      | some n, some i => if i.size = n then flatF P g r (off + n) else none
      | _, _ => none
    else none
def flatI (P : Program) : Nat → TypeId → Option Nat
  | 0, _ => none
  | d + 1, t => match P.underlying t with
    | some (.int .i64) => some 1
    | some (.struct fs) => if P.stoodInHeld t = true then none else flatF P (flatI P d) fs.toList 0
    | _ => none

/-- A value of such a type, of its integers. -/
def valI (P : Program) (t : TypeId) (as : List Int) : Value := match P.underlying t with
  | some (.struct _) => .agg (as.map I).toArray
  | _ => I (as.getD 0 0)

theorem part_flat {P : Program} {d t n : Nat} (h : flatI P d t = some n) {i : TypeInfo} (hi : P.info? t = some i) (hs : i.size = n) (pre as post : List Int) (ha : as.length = n) (w : World) :
    (part t ((pre ++ as ++ post).map I).toArray pre.length).run P w = .ok (valI P t as) w := by
  cases d with
  | zero => simp [flatI] at h
  | succ d =>
    unfold flatI at h
    cases hu : P.underlying t with
    | none => rw [hu] at h; simp at h
    | some dd =>
      rw [hu] at h
      unfold part valI
      rw [hu, Sem.run_bind, run_isAgg hu, Result.andThen_ok]
      cases dd <;> try (simp at h; done)
      case int k =>
        cases k <;> try (simp at h; done)
        simp only [Option.some.injEq] at h
        subst h
        match as, ha with
        | [a], _ => simp [aggD, pure, Sem.run]
      case struct fs =>
        simp only [aggD, if_true, Sem.run_bind, run_sizeOf hi, Result.andThen_ok]
        rw [hs, ← ha]
        simp [pure, Sem.run]

theorem eq_flat {P : Program} : ∀ (d t n : Nat), flatI P d t = some n → ∀ (D : Nat) (as bs : List Int) (w : World), d ≤ D → as.length = n → bs.length = n →
    (Op.equalIn D t (valI P t as) (valI P t bs)).run P w = .ok (decide (as = bs)) w
  | 0, t, n, h => by simp [flatI] at h
  | d + 1, t, n, h => by
    intro D as bs w hD ha hb
    obtain ⟨D, rfl⟩ : ∃ D', D = D' + 1 := ⟨D - 1, by omega⟩
    unfold flatI at h
    cases hu : P.underlying t with
    | none => rw [hu] at h; simp at h
    | some dd =>
      rw [hu] at h
      cases dd <;> try (simp at h; done)
      case int k =>
        cases k <;> try (simp at h; done)
        simp only [Option.some.injEq] at h
        subst h
        match as, bs, ha, hb with
        | [a], [b], _, _ =>
          unfold valI
          rw [hu]
          simp only [List.getD_cons_zero]
          rw [run_equalIn_int w D t .i64 .i64 a b hu, beq_dec]
          congr 1
          simp
      case struct fs =>
        by_cases hst : P.stoodInHeld t = true
        · simp [hst] at h
        · simp only [hst, Bool.false_eq_true, if_false] at h
          have hst : P.stoodInHeld t = false := by simpa using hst
          have hfo : P.fieldsOf t = fs := by unfold Program.fieldsOf; rw [hu]
          unfold valI
          rw [hu]
          simp only
          rw [run_equalIn_struct w D t _ _ (by rw [hfo]; exact hu) hst, hfo]
          have key : ∀ (l : List Field) (pa pb as bs : List Int) (w : World), pa.length = pb.length → as.length = bs.length → flatF P (flatI P d) l pa.length = some (pa.length + as.length) → 
              (Op.eqFields D ((pa ++ as).map I).toArray ((pb ++ bs).map I).toArray l).run P w = .ok (decide (as = bs)) w := by
            intro l
            induction l with
            | nil =>
              intro pa pb as bs w hp hl hf
              simp only [flatF, Option.some.injEq] at hf
              have h1 : as = [] := List.eq_nil_of_length_eq_zero (by omega)
              have h2 : bs = [] := List.eq_nil_of_length_eq_zero (by omega)
              subst h1; subst h2
              simp [Op.eqFields]
            | cons f l ih =>
              intro pa pb as bs w hp hl hf
              unfold flatF at hf
              by_cases hc : f.name ≠ "_" ∧ f.offset = pa.length
              · rw [if_pos hc] at hf
                cases hg : flatI P d f.type with
                | none => rw [hg] at hf; simp at hf
                | some m =>
                  cases hi : P.info? f.type with
                  | none => rw [hg, hi] at hf; simp at hf
                  | some i =>
                    rw [hg, hi] at hf
                    simp only at hf
                    by_cases hsz : i.size = m
                    · rw [if_pos hsz] at hf
                      have hmono : ∀ (l : List Field) (o r : Nat), flatF P (flatI P d) l o = some r → o ≤ r := by
                        intro l
                        induction l with
                        | nil => intro o r h; simp [flatF] at h; omega
                        | cons f l ih =>
                          intro o r h
                          unfold flatF at h
                          split at h
                          · split at h
                            · split at h
                              · have := ih _ _ h; omega
                              · cases h
                            · cases h
                          · cases h
                      have hle := hmono _ _ _ hf
                      have hm : m ≤ as.length := by omega
                      have ea : as = as.take m ++ as.drop m := (List.take_append_drop m as).symm
                      have eb : bs = bs.take m ++ bs.drop m := (List.take_append_drop m bs).symm
                      have la : (as.take m).length = m := by simp; omega
                      have lb : (bs.take m).length = m := by simp; omega
                      unfold Op.eqFields
                      rw [if_pos hc.1, hc.2]
                      have p1 := part_flat hg hi hsz pa (as.take m) (as.drop m) la w
                      have p2 := part_flat hg hi hsz pb (bs.take m) (bs.drop m) lb w
                      rw [List.append_assoc, ← ea] at p1
                      rw [List.append_assoc, ← eb, ← hp] at p2
                      simp only [Sem.run_bind, p1, p2, Result.andThen_ok, eq_flat d f.type m hg D _ _ w (by omega) la lb]
                      by_cases he : as.take m = bs.take m
                      · simp only [he, decide_true, Bool.not_true, Bool.false_eq_true, if_false]
                        have := ih (pa ++ as.take m) (pb ++ bs.take m) (as.drop m) (bs.drop m) w (by simp; omega) (by simp; omega) (by
                          have e1 : (pa ++ as.take m).length = pa.length + m := by simp; omega
                          have e2 : pa.length + m + (as.drop m).length = pa.length + as.length := by simp; omega
                          rw [e1, hf, e2])
                        rw [List.append_assoc, ← ea, List.append_assoc, ← eb] at this
                        rw [this]
                        congr 1
                        have : as = bs ↔ as.drop m = bs.drop m := ⟨fun e => by rw [e], fun e => by rw [ea, eb, he, e]⟩
                        simp [this]
                      · have hne : as ≠ bs := fun e => he (by rw [e])
                        simp [he, hne, pure, Sem.run]
                    · rw [if_neg hsz] at hf; cases hf
              · rw [if_neg hc] at hf; cases hf
          exact key fs.toList [] [] as bs w rfl (by omega) (by rw [List.length_nil, h]; simp [ha])

theorem EqTy.of {P : Program} {t n : Nat} (h1 : (match P.underlying t with | some (.struct _) => true | _ => false) = true) (h2 : flatI P 6 t = some n) (h3 : P.eqGuardType P.depth t = false) : EqTy P t n := ⟨fun a b as bs w ha hb la lb => by
  have := eq_flat 6 t n h2 Op.maxDepth as bs w (by decide) la lb
  unfold valI at this
  cases hu : P.underlying t with
  | none => rw [hu] at h1; cases h1
  | some d =>
    rw [hu] at h1 this
    cases d <;> try (cases h1; done)
    rw [ha, hb]
    exact this, fun a b op x y w => run_eqGuard_agg w op t x y _ _ h3⟩
end Go.Sk
end

section
/-
  Slices: read where they are frozen; owned, appended to, read, written.
-/
set_option linter.unusedVariables false
set_option linter.unusedSimpArgs false
namespace Go.Sk
open Go Go.RowKit
variable {M : Mode}

def hcell (h : Hp) (b o : Nat) : Option Value := match h b with
  | some (.cells c _ _) => c[o]?
  | _ => none
theorem hcell_mono {h h' : Hp} (hle : Hle h h') {b o : Nat} {v : Value} (e : hcell h b o = some v) : hcell h' b o = some v := by
  unfold hcell at *
  cases hb : h b with
  | none => rw [hb] at e; cases e
  | some x => rw [hb] at e; rw [hle b x hb]; exact e
theorem hcell_cell {h : Hp} {w : World} (hle : Hle h (World.hp w)) {b o : Nat} {v : Value} (e : hcell h b o = some v) : w.cell? ⟨b, o, none⟩ = some v := by
  have := hcell_mono hle e
  unfold hcell World.hp at this
  unfold World.cell?
  cases hb : w.heap[b]? with
  | none => simp [hb] at this
  | some x => cases x <;> simp [hb] at this ⊢ <;> exact this

/-- The cells from (b, o) on. -/
def PtAt (h : Hp) (b o : Nat) (cs : List Value) : Prop := ∀ j v, cs[j]? = some v → hcell h b (o + j) = some v
theorem PtAt.mono {h h' : Hp} (hle : Hle h h') {b o : Nat} {cs : List Value} (hp : PtAt h b o cs) : PtAt h' b o cs := fun j v e => hcell_mono hle (hp j v e)

/-- A slice of n elements, sz cells each, read in what is frozen. -/
def Rd (h : Hp) (v : Value) (sz n : Nat) (xs : List Value) : Prop :=
  xs.length = n * sz ∧ ∃ a cap, v = .slice a n cap ∧ n ≤ cap ∧ (n = 0 ∨ ∃ b o, a = some ⟨b, o, none⟩ ∧ PtAt h b o xs)
theorem Rd.mono {h h' : Hp} (hle : Hle h h') {v : Value} {sz n : Nat} {xs : List Value} (hr : Rd h v sz n xs) : Rd h' v sz n xs := by
  obtain ⟨h1, a, cap, h2, hc, h3⟩ := hr
  exact ⟨h1, a, cap, h2, hc, h3.imp id fun ⟨b, o, h4, h5⟩ => ⟨b, o, h4, h5.mono hle⟩⟩

/-- The i-th element's cells. -/
def chunk (xs : List Value) (sz i : Nat) : List Value := (xs.drop (i * sz)).take sz

theorem chunk_get {xs : List Value} {sz i j : Nat} {v : Value} (e : (chunk xs sz i)[j]? = some v) : xs[i * sz + j]? = some v := by
  unfold chunk at e
  rw [List.getElem?_take] at e
  split at e
  · rw [List.getElem?_drop] at e; exact e
  · cases e
theorem chunk_len {xs : List Value} {sz n i : Nat} (h : xs.length = n * sz) (hi : i < n) : (chunk xs sz i).length = sz := by
  unfold chunk
  have : i * sz + sz ≤ n * sz := by rw [← Nat.succ_mul]; exact Nat.mul_le_mul_right _ hi
  simp [h]; omega

theorem runLCF' {P : Program} {w : World} {b o : Nat} : ∀ (cs : List Value) (i : Nat) (acc : Array Value), (∀ j v, cs[j]? = some v → w.cell? ⟨b, o + (i + j), none⟩ = some v) → (loadCellsFrom ⟨b, o, none⟩ i cs.length acc).run P w = .ok (acc ++ cs.toArray) w
  | [], i, acc, _ => by simp [loadCellsFrom, pure, Sem.run]
  | x :: cs, i, acc, h => by
    have hx : w.cell? ((⟨b, o, none⟩ : Addr).add i) = some x := by rw [add_addr]; exact h 0 x rfl
    unfold loadCellsFrom
    simp only [List.length_cons, Sem.run_bind, runLd hx, Result.andThen_ok]
    rw [runLCF' cs (i + 1) (acc.push x) (fun j v e => by have := h (j + 1) v (by simpa using e); rw [show i + 1 + j = i + (j + 1) by omega]; exact this)]
    simp

section
variable {P : Program} {w0 : World} {h0 h : Hp} {L : List Itm} {K : Value → WP} {S : WP}

theorem indexAt_run {t e sz by_ n cap b o : Nat} {k : IntKind} {i : Int} [ht : TSlice P t e sz by_] (hi : 0 ≤ i ∧ i < n) (w : World) : (V (Instr.indexAt t (.slice (some ⟨b, o, none⟩) n cap) (.int k i))).run P w = .ok (.value (ptr b (o + i.toNat * sz))) w := by
  obtain ⟨inf, h1, h2, h3, _, _⟩ := ht.spec
  refine V_run ?_
  unfold Instr.indexAt
  show Sem.run P (Sem.bind (asIntOf (.int k i)) _) w = _
  simp only [asIntOf]
  show Sem.run P (Sem.bind (Sem.pure _) _) w = _
  simp only [Sem.bind]
  rw [Sem.run_bind, runU h1]
  simp only [Result.andThen_ok, Sem.run_bind, run_pure, runU h1, decide_false, Bool.and_false, run_sizeOf h2, h3, if_pos hi]
  rw [add_addr]

/-- An element of a frozen slice: its address, what lies there. -/
theorem Gs.index {t e sz by_ n : Nat} {v : Value} {k : IntKind} {i : Int} {xs : List Value} [ht : TSlice P t e sz by_] (hr : Rd h v sz n xs) (hi : 0 ≤ i ∧ i < n)
    (hk : ∀ b o, PtAt h b o (chunk xs sz i.toNat) → Gs w0 h0 h L (K (ptr b o))) : Gs w0 h0 h L (Do P (V (Instr.indexAt t v (.int k i))) K) := ⟨fun w s => by
  obtain ⟨h1, a, cap, rfl, hc, h3⟩ := hr
  rcases h3 with h3 | ⟨b, o, rfl, hp⟩
  · omega
  refine Do.of (indexAt_run hi w) ((hk b (o + i.toNat * sz) fun j v e => ?_).run w s)
  have := hp _ _ (chunk_get e)
  rw [show o + i.toNat * sz + j = o + (i.toNat * sz + j) by omega]
  exact this⟩
/-- The same, taken first. -/
theorem Gs.qindex {t e sz by_ n : Nat} {v : Value} {k : IntKind} {i : Int} {xs : List Value} {KQ : WP → Value → WP} [ht : TSlice P t e sz by_] (hr : Rd h v sz n xs) (hi : 0 ≤ i ∧ i < n)
    (hk : ∀ b o, PtAt h b o (chunk xs sz i.toNat) → Gs w0 h0 h L (KQ TrueC (ptr b o))) : Gs w0 h0 h L (Qk P (V (Instr.indexAt t v (.int k i))) KQ) := by
  obtain ⟨h1, a, cap, rfl, hc, h3⟩ := hr
  rcases h3 with h3 | ⟨b, o, rfl, hp⟩
  · omega
  haveI : Yd P TrueC (V (Instr.indexAt t (.slice (some ⟨b, o, none⟩) n cap) (.int k i))) (ptr b (o + i.toNat * sz)) := ⟨fun w _ => indexAt_run hi w⟩
  refine G.qkp (hk b (o + i.toNat * sz) fun j v e => ?_)
  have := hp _ _ (chunk_get e)
  rw [show o + i.toNat * sz + j = o + (i.toNat * sz + j) by omega]
  exact this

/-- What is frozen holds. -/
def FrzC (h : Hp) : WP := fun w => Hle h (World.hp w)
theorem loadP1 {t b o : Nat} {cs : List Value} {v : Value} [TOne P t] (hp : PtAt h b o (v :: cs)) : Yd P (FrzC h) (V (Instr.loadAt t (ptr b o))) v :=
  ⟨fun w s => loadAt_run (run_loadVar_one (hcell_cell s (by have := hp 0 v rfl; simpa using this)))⟩
theorem loadPN {t n b o : Nat} {cs : List Value} [ht : TAgg P t n] (hp : PtAt h b o cs) (hn : cs.length = n) : Yd P (FrzC h) (V (Instr.loadAt t (ptr b o))) (.agg cs.toArray) :=
  ⟨fun w s => loadAt_run (by
    obtain ⟨d, i, h1, h2, h3, h4⟩ := ht.spec
    unfold loadVar
    simp only [Sem.run_bind, run_isAgg h1, h3, Result.andThen_ok, if_true, run_sizeOf h2]
    unfold loadCells
    rw [h4, ← hn, runLCF' cs 0 #[] (fun j v e => hcell_cell s (by simpa using hp j v e))]
    simp [pure, Sem.run])⟩
theorem Gs.loadP1 {t b o : Nat} {cs : List Value} {v : Value} [TOne P t] (hp : PtAt h b o (v :: cs)) (hk : Gs w0 h0 h L (K v)) : Gs w0 h0 h L (Do P (V (Instr.loadAt t (ptr b o))) K) := ⟨fun w s =>
  Do.of ((Sk.loadP1 hp).run w s.frozen) (hk.run w s)⟩
theorem Gs.loadPN {t n b o : Nat} {cs : List Value} [ht : TAgg P t n] (hp : PtAt h b o cs) (hn : cs.length = n) (hk : Gs w0 h0 h L (K (.agg cs.toArray))) : Gs w0 h0 h L (Do P (V (Instr.loadAt t (ptr b o))) K) := ⟨fun w s =>
  Do.of ((Sk.loadPN hp hn).run w s.frozen) (hk.run w s)⟩
theorem Gs.qloadP1 {t b o : Nat} {cs : List Value} {v : Value} {KQ : WP → Value → WP} [TOne P t] (hp : PtAt h b o (v :: cs)) (hk : Gs w0 h0 h L (KQ (FrzC h) v)) : Gs w0 h0 h L (Qk P (V (Instr.loadAt t (ptr b o))) KQ) :=
  haveI := Sk.loadP1 (P := P) (t := t) hp
  G.qk (FrzC h) (fun w s => s.frozen) hk
theorem Gs.qloadPN {t n b o : Nat} {cs : List Value} {KQ : WP → Value → WP} [ht : TAgg P t n] (hp : PtAt h b o cs) (hn : cs.length = n) (hk : Gs w0 h0 h L (KQ (FrzC h) (.agg cs.toArray))) : Gs w0 h0 h L (Qk P (V (Instr.loadAt t (ptr b o))) KQ) :=
  haveI := Sk.loadPN (P := P) (t := t) hp hn
  G.qk (FrzC h) (fun w s => s.frozen) hk
theorem Gs.withf {X : WP} {h1 : Hp} (hle : Hle h1 h) (hk : Gs w0 h0 h L X) : Gs w0 h0 h L (With (FrzC h1) X) := G.with (fun w s => hle.trans s.frozen) hk
theorem PtAt.field {b o c : Nat} {cs : List Value} (hp : PtAt h b o cs) : PtAt h b (o + c) (cs.drop c) := fun j v e => by
  rw [List.getElem?_drop] at e
  rw [Nat.add_assoc]
  exact hp _ _ e

/-! ### Lengths -/
theorem run_len {t n cap ty : Nat} {a : Option Addr} {e sz by_ : Nat} [ht : TSlice P t e sz by_] (w : World) : (vBuiltin .len #[t] ty [.slice a n cap]).run P w = .ok (.value (goInt n)) w := by
  obtain ⟨inf, h1, _⟩ := ht.spec
  refine run_vB (s := Builtin.len_ #[t] ty #[.slice a n cap]) rfl ?_
  unfold Builtin.len_
  simp only [List.getElem?_toArray, List.getElem?_cons_zero, Sem.run_bind, runU h1, Result.andThen_ok]
  rfl
theorem goInt_small {n : Nat} (h : n ≤ 9223372036854775807) : goInt n = I n := rfl
theorem Gs.len {t ty e sz by_ n : Nat} {v : Value} {xs : List Value} [ht : TSlice P t e sz by_] (hr : Rd h v sz n xs) (hn : n ≤ 9223372036854775807) (hk : Gs w0 h0 h L (K (I n))) : Gs w0 h0 h L (Do P (vBuiltin .len #[t] ty [v]) K) := ⟨fun w s => by
  obtain ⟨_, a, cap, rfl, _, _⟩ := hr
  exact Do.of (run_len w) (by rw [goInt_small hn]; exact hk.run w s)⟩
theorem Gs.qlen {t ty e sz by_ n : Nat} {v : Value} {xs : List Value} {KQ : WP → Value → WP} [ht : TSlice P t e sz by_] (hr : Rd h v sz n xs) (hn : n ≤ 9223372036854775807) (hk : Gs w0 h0 h L (KQ TrueC (I n))) : Gs w0 h0 h L (Qk P (vBuiltin .len #[t] ty [v]) KQ) := by
  obtain ⟨_, a, cap, rfl, _, _⟩ := hr
  haveI : Yd P TrueC (vBuiltin .len #[t] ty [.slice a n cap]) (I n) := ⟨fun w _ => by rw [run_len, goInt_small hn]⟩
  exact G.qkp hk

/-! ### What is owned becomes frozen -/
theorem Gs.freeze {v : Value} {e sz : Nat} {xs : List Value} {R : List Itm} {X : WP} [ht : TakeS L v e sz xs R] 
    (hk : ∀ h', Hle h h' → (∀ n, xs.length = n * sz → sz ≠ 0 → Rd h' v sz n xs) → Gs w0 h0 h' R X) : Gs w0 h0 h L X := ⟨fun w s => by
  have s := s.perm ht.perm
  obtain ⟨hok, hfr⟩ := s.items (.sl v e sz xs) (by simp)
  have hap := List.pairwise_cons.1 s.apart
  rcases hok with ⟨rfl, rfl⟩ | ⟨b, off, n, cap, pre, post, rfl, h1, h2, h3, h4, h5⟩
  · refine (hk h (Hle.refl h) fun n hn hsz => ?_).run w (s.sub (List.sublist_cons_self _ _))
    have : n = 0 := by
      rcases Nat.eq_zero_or_pos n with e | e
      · exact e
      · have := Nat.mul_pos e (Nat.pos_of_ne_zero hsz); simp at hn; omega
    subst this
    exact ⟨by simp, none, 0, rfl, Nat.le_refl _, .inl rfl⟩
  · obtain ⟨g1, g2⟩ := hfr b rfl
    let h' : Hp := fun k => if k = b then World.hp w b else h k
    have hle : Hle h h' := fun k o e => by
      show (if k = b then _ else _) = _
      split
      · rename_i ek; subst ek; rw [g2] at e; cases e
      · exact e
    refine (hk h' hle fun m hm hsz => ?_).run w ⟨s.below, s.up.trans hle, fun k hk => ?_, fun k o e => ?_, fun it hi => ⟨(s.items it (by simp [hi])).1, fun c hc => ?_⟩, hap.2, s.drawn⟩
    · have : m = n := Nat.eq_of_mul_eq_mul_right (Nat.pos_of_ne_zero hsz) (hm.symm.trans h3)
      subst this
      refine ⟨h3, _, cap, rfl, h4, .inr ⟨b, off, rfl, fun j u e => ?_⟩⟩
      unfold hcell
      show (match (if b = b then World.hp w b else h b) with | some (.cells c _ _) => c[off + j]? | _ => none) = _
      rw [if_pos rfl, h1]
      have hj : j < xs.length := by
        rcases Nat.lt_or_ge j xs.length with h | h
        · exact h
        · rw [List.getElem?_eq_none h] at e; cases e
      simp only [List.getElem?_toArray]
      rw [List.append_assoc, List.getElem?_append_right (by omega), List.getElem?_append_left (by omega), ← e]
      congr 1; omega
    · show (if k = b then _ else _) = _
      rw [if_neg (by omega)]
      exact s.old k hk
    · have e : (if k = b then World.hp w b else h k) = some o := e
      split at e
      · rename_i ek; subst ek; exact e
      · exact s.frozen k o e
    · obtain ⟨q1, q2⟩ := (s.items it (by simp [hi])).2 c hc
      refine ⟨q1, ?_⟩
      show (if c = b then _ else _) = _
      rw [if_neg (fun e => by subst e; exact hap.1 it hi c rfl hc)]
      exact q2⟩
end
end Go.Sk
end

section
/-
  The walk: parts of values, method values.
-/
set_option linter.unusedVariables false
namespace Go.Sk
open Go
variable {M : Mode}
variable {P : Program} {S : WP} {w0 : World} {h0 h : Hp} {L : List Itm} {K : Value → WP}
theorem vCall_first (F : Go.Fn) (first args : List Value) (caps : Array Value) : vCall (.func F first.toArray caps) args = vCall (.func F #[] caps) (first ++ args) := by
  simp [vCall, Deferred.ofValue]
theorem Gs.first {F : Go.Fn} {first args : List Value} {caps : Array Value} (hk : G S (Do P (vCall (.func F #[] caps) (first ++ args)) K)) : G S (Do P (vCall (.func F first.toArray caps) args) K) := by
  rw [vCall_first]; exact hk
def fldB (P : Program) (t f off n : Nat) (ag : Bool) : Bool := match P.underlying t with
  | some (.struct fs) => match fs[f]? with
    | some x => Nat.beq x.offset off && (match P.info? x.type, P.underlying x.type with | some i, some d => Nat.beq i.size n && (aggD d == ag) | _, _ => false)
    | none => false
  | _ => false
class TFieldV (P : Program) (t f : Nat) (off n : outParam Nat) (ag : outParam Bool) : Prop where
  ok : fldB P t f off n ag = true
theorem TFieldV.spec {t f off n : Nat} {ag : Bool} (h : TFieldV P t f off n ag) : ∃ fs x i d, P.underlying t = some (.struct fs) ∧ fs[f]? = some x ∧ x.offset = off ∧ P.info? x.type = some i ∧ P.underlying x.type = some d ∧ i.size = n ∧ aggD d = ag := by
  have hf := h.ok
  unfold fldB at hf
  cases hu : P.underlying t with
  | none => rw [hu] at hf; cases hf
  | some d =>
    rw [hu] at hf
    cases d <;> try (cases hf; done)
    rename_i fs
    simp only at hf
    cases hx : fs[f]? with
    | none => rw [hx] at hf; cases hf
    | some x =>
      rw [hx] at hf
      simp only [Bool.and_eq_true] at hf
      obtain ⟨h1, h2⟩ := hf
      cases hi : P.info? x.type with
      | none => rw [hi] at h2; cases h2
      | some i =>
        cases hd : P.underlying x.type with
        | none => rw [hi, hd] at h2; cases h2
        | some d =>
          rw [hi, hd] at h2
          simp only [Bool.and_eq_true] at h2
          exact ⟨fs, x, i, d, rfl, hx, Nat.eq_of_beq_eq_true h1, hi, hd, Nat.eq_of_beq_eq_true h2.1, eq_of_beq h2.2⟩
theorem run_part1 {t off : Nat} {d : TypeDesc} {cs : List Value} {v : Value} {w : World} (h1 : P.underlying t = some d) (h2 : aggD d = false) (hv : cs[off]? = some v) : (part t cs.toArray off).run P w = .ok v w := by
  unfold part
  simp only [Sem.run_bind, run_isAgg h1, h2, Result.andThen_ok, Bool.false_eq_true, if_false, List.getElem?_toArray, hv, pure, Sem.run]
instance Yd.fieldV1 {t f off n : Nat} {l : List Value} {v : Value} [hf : TFieldV P t f off n false] [hv : Nth l off v] : Yd P S (V (Instr.field t (.agg l.toArray) f)) v := Yd.of fun w => by
  obtain ⟨fs, x, i, d, h1, h2, h3, h4, h5, h6, h7⟩ := hf.spec
  unfold Instr.field
  simp only [Sem.run_bind, runU h1, Result.andThen_ok, h2, asAgg]
  rw [h3]
  show Sem.run P (part x.type l.toArray off) w = _
  exact run_part1 h5 h7 hv.ok
instance Yd.fieldVN {t f off n : Nat} {l s : List Value} [hf : TFieldV P t f off n true] [hs : Subl l off n s] : Yd P S (V (Instr.field t (.agg l.toArray) f)) (.agg s.toArray) := Yd.of fun w => by
  obtain ⟨fs, x, i, d, h1, h2, h3, h4, h5, h6, h7⟩ := hf.spec
  unfold Instr.field
  simp only [Sem.run_bind, runU h1, Result.andThen_ok, h2, asAgg]
  rw [h3]
  show Sem.run P (part x.type l.toArray off) w = _
  unfold part
  simp only [Sem.run_bind, run_isAgg h5, h7, Result.andThen_ok, if_true, run_sizeOf h4, h6]
  obtain ⟨a, c, e, ha, hb⟩ := hs.ok
  simp [e, ← ha, ← hb, pure]
theorem Yd.indexV1 {t n e sz : Nat} {k : IntKind} {i : Int} {l : List Value} {v : Value} [ht : TArr P t n e sz] [h1 : TOne P e] (hi : 0 ≤ i ∧ i < n) (hv : l[i.toNat * sz]? = some v) : Yd P S (V (Instr.index t (.agg l.toArray) (.int k i))) v := Yd.of fun w => by
  have h := ht.ok
  unfold arrB at h
  cases hu : P.underlying t with
  | none => rw [hu] at h; cases h
  | some d =>
    rw [hu] at h
    cases d <;> try (cases h; done)
    rename_i n' e'
    cases hi' : P.info? e with
    | none => rw [hi'] at h; cases h
    | some inf =>
      rw [hi'] at h
      simp only [Bool.and_eq_true] at h
      obtain ⟨⟨g1, g2⟩, g3⟩ := h
      have g1 := Nat.eq_of_beq_eq_true g1
      have g2 := Nat.eq_of_beq_eq_true g2
      have g3 := Nat.eq_of_beq_eq_true g3
      subst g1 g2
      obtain ⟨d, j, q1, q2, q3, q4⟩ := h1.spec
      unfold Instr.index
      show Sem.run P (Sem.bind (asIntOf (.int k i)) _) w = _
      simp only [asIntOf]
      show Sem.run P (Sem.bind (Sem.pure _) _) w = _
      simp only [Sem.bind]
      rw [Sem.run_bind, runU hu]
      simp only [Result.andThen_ok, if_pos hi, Sem.run_bind, run_sizeOf hi', g3]
      exact run_part1 q1 q3 hv
theorem G.buildA {t n e sz : Nat} {z out : List Value} {parts : List (Nat × Value)} [ht : TArr P t n e sz] [hz : TZero P t z] [hp : Parts 0 parts sz out] (hl : z.length = parts.length * sz) (hk : G S (K (.agg out.toArray))) : G S (Do P (vBuild t parts) K) := ⟨fun w s => by
  refine Do.of (r := .ok (.value (.agg out.toArray)) w) ?_ (hk.run w s)
  obtain ⟨i', zv, h6, h7, h8⟩ := hz.spec
  have h := ht.ok
  unfold arrB at h
  cases hu : P.underlying t with
  | none => rw [hu] at h; cases h
  | some d =>
    rw [hu] at h
    cases d <;> try (cases h; done)
    rename_i n' e'
    cases hi' : P.info? e with
    | none => rw [hi'] at h; cases h
    | some inf =>
      rw [hi'] at h
      simp only [Bool.and_eq_true] at h
      obtain ⟨⟨g1, g2⟩, g3⟩ := h
      have g2 := Nat.eq_of_beq_eq_true g2
      have g3 := Nat.eq_of_beq_eq_true g3
      subst g2
      unfold vBuild
      refine V_run ?_
      unfold Instr.build
      simp only [Sem.run_bind, run_zeroValue h6 h7, Result.andThen_ok, runU hu, h8, run_sizeOf hi', g3]
      have := hp.ok [] z (by simp) hl
      simp only [List.nil_append] at this
      rw [this]
      rfl⟩
theorem G.remk {t : TypeId} {k : IntKind} {a b : Int} (hb : b ≠ 0) (hk : G S (K (.int k (a.tmod b)))) : G S (Do P (V (binOp .rem t (.int k a) (.int k b))) K) :=
  haveI := Yd.rem (P := P) (S := S) (t := t) (k := k) (a := a) hb
  G.step hk
theorem G.indexV1 {t n e sz : Nat} {k : IntKind} {i : Int} {l : List Value} {v : Value} [ht : TArr P t n e sz] [h1 : TOne P e] (hi : 0 ≤ i ∧ i < n) (hv : l[i.toNat * sz]? = some v) (hk : G S (K v)) : G S (Do P (V (Instr.index t (.agg l.toArray) (.int k i))) K) :=
  haveI := Yd.indexV1 (P := P) (S := S) (t := t) (k := k) hi hv
  G.step hk
theorem Gs.callve {f : FuncId} [IsGo P f] {args args' : List Value} {r : Value} (ha : args = args')
    (hf : Ct P f args' h (fun _ v => v = r)) (hk : Gs w0 h0 h L (K r)) : Gs w0 h0 h L (Do P (vCall (.func (.func f) #[] ⟨[]⟩) args) K) := by
  subst ha; exact Gs.callv0 hf hk
end Go.Sk
end

section
/-
  The walk: what is owned, in another order, or less of it.
-/
set_option linter.unusedVariables false
namespace Go.Sk
open Go
variable {M : Mode}
class Sel (L L' : List Itm) : Prop where
  ok : ∃ R, L.Perm (L' ++ R)
instance Sel.nil {L : List Itm} : Sel L [] := ⟨L, .refl _⟩
instance Sel.blk {L R r : List Itm} {b : Nat} {cs : List Value} {e : TypeId} [h : TakeB L b cs e R] [hr : Sel R r] : Sel L (.blk b cs e :: r) := by
  obtain ⟨Q, hq⟩ := hr.ok
  exact ⟨Q, h.perm.trans (hq.cons _)⟩
instance Sel.sl {L R r : List Itm} {v : Value} {e : TypeId} {sz : Nat} {xs : List Value} [h : TakeS L v e sz xs R] [hr : Sel R r] : Sel L (.sl v e sz xs :: r) := by
  obtain ⟨Q, hq⟩ := hr.ok
  exact ⟨Q, h.perm.trans (hq.cons _)⟩
theorem Gs.sel {w0 : World} {h0 h : Hp} {L L' : List Itm} {X : WP} [hs : Sel L L'] (hk : Gs w0 h0 h L' X) : Gs w0 h0 h L X := ⟨fun w s => by
  obtain ⟨R, hR⟩ := hs.ok
  exact hk.run w ((s.perm hR).sub (List.sublist_append_left L' R))⟩
theorem Gs.goS {w0 : World} {h0 h : Hp} {L L' : List Itm} {α : Type} {cont : α → WP} {t t' : α} (hc : Gs w0 h0 h L' (cont t')) (e : t = t') [hs : Sel L L'] : Gs w0 h0 h L (cont t) := e ▸ Gs.sel hc
end Go.Sk
end

section
/-
  The walk: strings, as lists of bytes.
-/
set_option linter.unusedVariables false
namespace Go.Sk
open Go
variable {M : Mode}
abbrev Str (l : List UInt8) : Value := .string ⟨l.toArray⟩
variable {P : Program} {S : WP} {w0 : World} {h0 h : Hp} {L : List Itm} {K : Value → WP}
theorem TStr.spec {t : Nat} (h : TStr P t) : P.underlying t = some .string := by
  have h := h.ok
  unfold strB at h
  cases hu : P.underlying t with
  | none => rw [hu] at h; cases h
  | some d => rw [hu] at h; cases d <;> first | rfl | cases h
instance Yd.slen {t ty : TypeId} {l : List UInt8} [ht : TStr P t] : Yd P S (vBuiltin .len #[t] ty [Str l]) (I l.length) := ⟨fun w _ => by
  refine run_vB (s := Builtin.len_ #[t] ty #[Str l]) rfl ?_
  rw [run_len_string w t ty _ ht.spec]
  rfl⟩
theorem G.sindex {t : TypeId} {k : IntKind} {l : List UInt8} {i : Int} [ht : TStr P t] (hi : 0 ≤ i) (hl : i.toNat < l.length) (hk : G S (K (.int .u8 (l[i.toNat]).toNat))) : G S (Do P (V (Instr.index t (Str l) (.int k i))) K) :=
  haveI : Yd P S (V (Instr.index t (Str l) (.int k i))) (.int .u8 (l[i.toNat]).toNat) := Yd.of fun w => by
    rw [run_index_string w t _ k i ht.spec, dif_pos ⟨hi, by show i < ((⟨l.toArray⟩ : ByteArray).size : Int); simp [ByteArray.size]; omega⟩]
    rfl
  G.step hk
theorem run_sliceAt {t : TypeId} {x : Value} {a b c : Option Value} {w : World} (ht : P.underlying t = some .string) : (Instr.sliceAt t x a b c).run P w = (Instr.slice t x a b c).run P w := by
  unfold Instr.sliceAt
  rw [Sem.run_bind, runU ht]
  rfl
theorem ext_drop (l : List UInt8) (i : Nat) : (⟨l.toArray⟩ : ByteArray).extract i (⟨l.toArray⟩ : ByteArray).size = ⟨(l.drop i).toArray⟩ := by
  apply ByteArray.ext
  simp [ByteArray.size]
  exact List.take_of_length_le (by simp)
theorem ext_take (l : List UInt8) (i : Nat) : (⟨l.toArray⟩ : ByteArray).extract 0 i = ⟨(l.take i).toArray⟩ := by
  apply ByteArray.ext
  simp
theorem G.sfrom {t : TypeId} {k : IntKind} {l : List UInt8} {i : Int} [ht : TStr P t] (hi : 0 ≤ i ∧ i ≤ l.length) (hk : G S (K (Str (l.drop i.toNat)))) : G S (Do P (V (Instr.sliceAt t (Str l) (some (.int k i)) none none)) K) :=
  haveI : Yd P S (V (Instr.sliceAt t (Str l) (some (.int k i)) none none)) (Str (l.drop i.toNat)) := Yd.of fun w => by
    rw [run_sliceAt ht.spec, run_slice_string_from_if w t _ k i ht.spec, if_pos ⟨hi.1, by simp [ByteArray.size]; omega⟩, ext_drop]
  G.step hk
theorem G.sto {t : TypeId} {k : IntKind} {l : List UInt8} {i : Int} [ht : TStr P t] (hi : 0 ≤ i ∧ i ≤ l.length) (hk : G S (K (Str (l.take i.toNat)))) : G S (Do P (V (Instr.sliceAt t (Str l) none (some (.int k i)) none)) K) :=
  haveI : Yd P S (V (Instr.sliceAt t (Str l) none (some (.int k i)) none)) (Str (l.take i.toNat)) := Yd.of fun w => by
    rw [run_sliceAt ht.spec, run_slice_string_to_if w t _ k i ht.spec, if_pos ⟨hi.1, by simp [ByteArray.size]; omega⟩, ext_take]
  G.step hk
theorem Yd.sadd {t : TypeId} {a b : List UInt8} (hl : a.length ≤ 8388608 ∧ b.length ≤ 8388608) : Yd P S (V (binOp .add t (Str a) (Str b))) (Str (a ++ b)) := Yd.of fun w => by
  show (Op.stringOp .add ⟨a.toArray⟩ ⟨b.toArray⟩).run P w = _
  exact run_string_add_lists w a b (by omega) (by omega)
theorem G.sadd {t : TypeId} {a b : List UInt8} (hl : a.length ≤ 8388608 ∧ b.length ≤ 8388608) (hk : G S (K (Str (a ++ b)))) : G S (Do P (V (binOp .add t (Str a) (Str b))) K) :=
  haveI := Yd.sadd (P := P) (S := S) (t := t) hl
  G.step hk
theorem G.qsadd {t : TypeId} {a b : List UInt8} {KQ : WP → Value → WP} (hl : a.length ≤ 8388608 ∧ b.length ≤ 8388608) (hk : G S (KQ TrueC (Str (a ++ b)))) : G S (Qk P (V (binOp .add t (Str a) (Str b))) KQ) :=
  haveI := Yd.sadd (P := P) (S := TrueC) (t := t) hl
  G.qkp hk
instance Yd.seql {t : TypeId} {x y : Operand} {a b : List UInt8} : Yd P S (V (EqG .eql t x y (Str a) (Str b))) (.bool (decide (a = b))) := Yd.of fun w => by
  have : (a == b) = decide (a = b) := by by_cases h : a = b <;> simp [h]
  simp [EqG, eqGuard, binOp_string_eql, this, pure, Sem.bind, bind]
instance Yd.sneq {t : TypeId} {x y : Operand} {a b : List UInt8} : Yd P S (V (EqG .neq t x y (Str a) (Str b))) (.bool (decide (a ≠ b))) := Yd.of fun w => by
  have : (a == b) = decide (a = b) := by by_cases h : a = b <;> simp [h]
  simp [EqG, eqGuard, binOp_string_neq, this, pure, Sem.bind, bind]
theorem TInt.spec {t : Nat} {k : IntKind} (h : TInt P t k) : P.underlying t = some (.int k) := by
  have h := h.ok
  unfold intB at h
  cases hu : P.underlying t with
  | none => rw [hu] at h; cases h
  | some d =>
    rw [hu] at h
    cases d <;> try (cases h; done)
    rw [eq_of_beq h]
/-- The bytes of an own slice as a string. -/
theorem Gs.sbytes {s d e e' b off n c sz by_ : Nat} {xs : List Value} {l : List UInt8} [ht : TSlice P s e sz by_] [he : TInt P e .u8] [hd : TStr P d] [hs : Sl L (.slice (some ⟨b, off, none⟩) n c) e' 1 xs] (hx : xs = l.map fun b => Value.int .u8 (b.toNat : Int))
    (hk : Gs w0 h0 h L (K (Str l))) : Gs w0 h0 h L (Do P (V (convert s d (.slice (some ⟨b, off, none⟩) n c))) K) := ⟨fun w st => by
  refine Do.of (V_run ?_) (hk.run w st)
  obtain ⟨_, h1, _⟩ := ht.spec
  have hok := (st.items _ hs.mem).1
  rcases hok with ⟨h2, _⟩ | ⟨b', off', n', c', pre, post, h2, h3, h4, h5, h6, h7⟩
  · cases h2
  · cases h2
    have hn : l.length = n := by rw [hx] at h5; simpa using h5
    rw [← hn]
    refine run_convert_bytes_back w s d e ⟨b, off, none⟩ c l h1 he.spec hd.spec ?_
    intro j hj
    rw [add_addr, cell_of h3, ← h4, List.append_assoc, List.getElem?_append_right (by omega), List.getElem?_append_left (by rw [hx]; simp; omega)]
    rw [hx]
    simp [hj]⟩
end Go.Sk
end

section
set_option linter.unusedVariables false
namespace Go.Sk
open Go Go.RowKit
variable {M : Mode}
/-- A join proved once, for whatever comes there. -/
theorem G.jnP {S : WP} {α : Type} {J : α → WP} {B : (α → WP) → WP} (Φ : α → Prop) (hj : ∀ a, Φ a → G S (J a)) (hk : ∀ K, (∀ a, Φ a → G S (K a)) → G S (B K)) : G S (Jn J B) := G.jn (hk J hj)
/-- A contract from a law of the library. -/
theorem Ct.lib {P : Program} {f : FuncId} {args : List Value} {h : Hp} {post : Hp → Value → Prop} (hc : ∀ w, Hle h (World.hp w) → Calls P f args.toArray w fun e w' => ∃ v, e = .returned v ∧ post h v ∧ Below w.heap.size w w') (hd : M.D → False := by exact fun h => h) : Ct P f args h post := fun w hh =>
  Calls.mono (hc w hh) fun e w' he => by
    obtain ⟨v, he, hp, hb⟩ := he
    subst he
    refine ⟨hb, ⟨h, Hle.refl h, fun _ _ => rfl, fun k o e => ?_, hp⟩, fun d => (hd d).elim⟩
    have h1 := hh k o e
    have hk : k < w.heap.size := by
      unfold World.hp at h1
      exact (Array.getElem?_eq_some_iff.1 h1).1
    show w'.heap[k]? = some o
    rw [hb.block k hk]
    exact h1
end Go.Sk
end

section
/-
  The walk: interface values compared with nil.
-/
set_option linter.unusedVariables false
namespace Go.Sk
open Go
variable {M : Mode}
def ifaceB (P : Program) (t : Nat) : Bool := match P.underlying t with
  | some (.interface _) => true
  | _ => false
class TIface (P : Program) (t : TypeId) : Prop where
  ok : ifaceB P t = true
theorem TIface.spec {P : Program} {t : TypeId} (h : TIface P t) : ∃ ms, P.underlying t = some (.interface ms) := by
  have h := h.ok
  unfold ifaceB at h
  cases hu : P.underlying t with
  | none => rw [hu] at h; cases h
  | some d => rw [hu] at h; cases d <;> first | exact ⟨_, rfl⟩ | cases h
variable {P : Program} {S : WP}
theorem run_eqIn_nn {t : TypeId} {ms : Array (String × TypeId)} (hi : P.underlying t = some (.interface ms)) (w : World) : (Op.equal t .nilIface .nilIface).run P w = .ok true w := by
  have h : ∀ d : Nat, (Op.equalIn (d + 1) t .nilIface .nilIface).run P w = .ok true w := fun d => by simp [Op.equalIn, run_underlying hi]
  simp [Op.equal, Op.maxDepth, h 9999]
theorem run_eqIn_in {t tp : TypeId} {v : Value} {ms : Array (String × TypeId)} (hi : P.underlying t = some (.interface ms)) (w : World) : (Op.equal t (.iface tp v) .nilIface).run P w = .ok false w := by
  have h : ∀ d : Nat, (Op.equalIn (d + 1) t (.iface tp v) .nilIface).run P w = .ok false w := fun d => by simp [Op.equalIn, run_underlying hi]
  simp [Op.equal, Op.maxDepth, h 9999]
instance Yd.inn {t : TypeId} {x : Operand} [ht : TIface P t] : Yd P S (V (EqG .neq t x (.const .nilIface) .nilIface .nilIface)) (.bool false) := Yd.of fun w => by
  obtain ⟨ms, hi⟩ := ht.spec
  simp [EqG, eqGuard, binOp, run_eqIn_nn hi]
instance Yd.inv {t tp : TypeId} {v : Value} {x : Operand} [ht : TIface P t] : Yd P S (V (EqG .neq t x (.const .nilIface) (.iface tp v) .nilIface)) (.bool true) := Yd.of fun w => by
  obtain ⟨ms, hi⟩ := ht.spec
  simp [EqG, eqGuard, binOp, run_eqIn_in hi]
instance Yd.ienn {t : TypeId} {x : Operand} [ht : TIface P t] : Yd P S (V (EqG .eql t x (.const .nilIface) .nilIface .nilIface)) (.bool true) := Yd.of fun w => by
  obtain ⟨ms, hi⟩ := ht.spec
  simp [EqG, eqGuard, binOp, run_eqIn_nn hi]
instance Yd.ienv {t tp : TypeId} {v : Value} {x : Operand} [ht : TIface P t] : Yd P S (V (EqG .eql t x (.const .nilIface) (.iface tp v) .nilIface)) (.bool false) := Yd.of fun w => by
  obtain ⟨ms, hi⟩ := ht.spec
  simp [EqG, eqGuard, binOp, run_eqIn_in hi]
end Go.Sk
namespace Go.Sk
open Go
theorem TBool.spec {P : Program} {t : Nat} (h : TBool P t) : P.underlying t = some .bool := by
  have h := h.ok
  unfold boolB at h
  cases hu : P.underlying t with
  | none => rw [hu] at h; cases h
  | some d => rw [hu] at h; cases d <;> first | rfl | cases h
variable {P : Program} {S : WP} {p : Prop} [Decidable p] {X Y : WP}
theorem G.gdy (hp : p) (h : G S X) : G S (Gd (.bool (decide p)) true X Y) := by rw [decide_eq_true hp]; exact G.gdtt h
theorem G.gdn (hp : ¬ p) (h : G S Y) : G S (Gd (.bool (decide p)) true X Y) := by rw [decide_eq_false hp]; exact G.gdft h
theorem G.gdyf (hp : ¬ p) (h : G S X) : G S (Gd (.bool (decide p)) false X Y) := by rw [decide_eq_false hp]; exact G.gdff h
theorem G.gdnf (hp : p) (h : G S Y) : G S (Gd (.bool (decide p)) false X Y) := by rw [decide_eq_true hp]; exact G.gdtf h
theorem G.ify (hp : p) (h : G S X) : G S (If (.bool (decide p)) X Y) := by rw [decide_eq_true hp]; exact G.ift h
theorem G.ifn (hp : ¬ p) (h : G S Y) : G S (If (.bool (decide p)) X Y) := by rw [decide_eq_false hp]; exact G.iff h
theorem G.gdby {b : Bool} (hp : b = true) (h : G S X) : G S (Gd (.bool b) true X Y) := by rw [hp]; exact G.gdtt h
theorem G.gdbn {b : Bool} (hp : b = false) (h : G S X) : G S (Gd (.bool b) false X Y) := by rw [hp]; exact G.gdff h
instance Yd.eqlB {t : TypeId} {x y : Operand} {a b : Bool} [ht : TBool P t] : Yd P S (V (EqG .eql t x y (.bool a) (.bool b))) (.bool (decide (a = b))) := Yd.of fun w => by
  have h : ∀ d : Nat, (Op.equalIn (d + 1) t (.bool a) (.bool b)).run P w = .ok (a == b) w := fun d => by simp [Op.equalIn, run_underlying ht.spec]
  have e : (a == b) = decide (a = b) := by cases a <;> cases b <;> rfl
  simp [EqG, eqGuard, binOp, Op.equal, Op.maxDepth, h 9999, e]
instance Yd.neqB {t : TypeId} {x y : Operand} {a b : Bool} [ht : TBool P t] : Yd P S (V (EqG .neq t x y (.bool a) (.bool b))) (.bool (decide (a ≠ b))) := Yd.of fun w => by
  have h : ∀ d : Nat, (Op.equalIn (d + 1) t (.bool a) (.bool b)).run P w = .ok (a == b) w := fun d => by simp [Op.equalIn, run_underlying ht.spec]
  have e : (!(a == b)) = decide (a ≠ b) := by cases a <;> cases b <;> rfl
  simp [EqG, eqGuard, binOp, Op.equal, Op.maxDepth, h 9999, e]
end Go.Sk
namespace Go.Sk
open Go
theorem Gs.callr {P : Program} {f : FuncId} [IsGo P f] {args args' : List Value} {w0 : World} {h0 h : Hp} {L : List Itm} {K : Value → WP} {r r' : Value} (ha : args = args') (hr : r = r')
    (hf : Ct P f args' h (fun _ v => v = r)) (hk : Gs w0 h0 h L (K r')) : Gs w0 h0 h L (Do P (vCall (.func (.func f) #[] ⟨[]⟩) args) K) := by
  subst ha; subst hr; exact Gs.callv0 hf hk
end Go.Sk
namespace Go.Sk
open Go
theorem G.qneg {P : Program} {S : WP} {K : WP → Value → WP} {a : Int} (hr : -9223372036854775808 ≤ -a ∧ -a ≤ 9223372036854775807) (hk : G S (K TrueC (I (-a)))) : G S (Qk P (V (Op.unary .neg (I a))) K) :=
  G.qkp (v := .int .i64 (IntKind.i64.wrap (0 - a))) (by rw [wrap_in (by omega), Int.zero_sub]; exact hk)
theorem G.qshr {P : Program} {S : WP} {K : WP → Value → WP} {t : TypeId} {yk : IntKind} {a y : Int} (hy : 0 ≤ y ∧ y ≤ 63) (hk : G S (K TrueC (I (a / 2 ^ y.toNat)))) : G S (Qk P (V (binOp .shr t (I a) (.int yk y))) K) :=
  haveI := Yd.shr (P := P) (S := TrueC) (t := t) (yk := yk) (a := a) hy
  G.qkp hk
theorem G.qsfrom {P : Program} {S : WP} {K : WP → Value → WP} {t : TypeId} {k : IntKind} {l : List UInt8} {i : Int} [ht : TStr P t] (hi : 0 ≤ i ∧ i ≤ l.length) (hk : G S (K TrueC (Str (l.drop i.toNat)))) : G S (Qk P (V (Instr.sliceAt t (Str l) (some (.int k i)) none none)) K) :=
  haveI : Yd P TrueC (V (Instr.sliceAt t (Str l) (some (.int k i)) none none)) (Str (l.drop i.toNat)) := Yd.of fun w => by
    rw [run_sliceAt ht.spec, run_slice_string_from_if w t _ k i ht.spec, if_pos ⟨hi.1, by simp [ByteArray.size]; omega⟩, ext_drop]
  G.qkp hk
theorem G.qsto {P : Program} {S : WP} {K : WP → Value → WP} {t : TypeId} {k : IntKind} {l : List UInt8} {i : Int} [ht : TStr P t] (hi : 0 ≤ i ∧ i ≤ l.length) (hk : G S (K TrueC (Str (l.take i.toNat)))) : G S (Qk P (V (Instr.sliceAt t (Str l) none (some (.int k i)) none)) K) :=
  haveI : Yd P TrueC (V (Instr.sliceAt t (Str l) none (some (.int k i)) none)) (Str (l.take i.toNat)) := Yd.of fun w => by
    rw [run_sliceAt ht.spec, run_slice_string_to_if w t _ k i ht.spec, if_pos ⟨hi.1, by simp [ByteArray.size]; omega⟩, ext_take]
  G.qkp hk
end Go.Sk
end

