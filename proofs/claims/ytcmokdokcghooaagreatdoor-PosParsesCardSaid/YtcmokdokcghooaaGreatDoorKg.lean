/-
  Lemmas for the proof of the statement of this claim: a part of the road, no statement of its own. Conditions: those that each lemma names.
-/
import Derived.Test.YtcmokdokcghooaaGreatDoorKf
import Derived.Test.YtcmokdokcghooaaGreatDoorKb
import Derived.Shelf.SlSortCmp.WholeK
import Derived.Lib.QuietBelow
import Derived.Lib.Builder
import Derived.Lib.UnsafeStr
import Derived.Lib.AppendZeros
section
/-
  The walk: lists of related things; slices of them; strings in order.
-/
set_option linter.unusedVariables false
set_option linter.unusedSimpArgs false
namespace Go.Sk
open Go Go.RowKit
variable {M : Mode}

/-! ### Lists, one thing related to one -/
inductive All2 {α β : Type} (R : α → β → Prop) : List α → List β → Prop
  | nil : All2 R [] []
  | cons {a : α} {b : β} {l : List α} {m : List β} : R a b → All2 R l m → All2 R (a :: l) (b :: m)
section
variable {α β : Type} {R S : α → β → Prop}
theorem All2.len : ∀ {l : List α} {m : List β}, All2 R l m → l.length = m.length
  | _, _, .nil => rfl
  | _, _, .cons _ h => by simp [h.len]
theorem All2.get : ∀ {l : List α} {m : List β}, All2 R l m → ∀ (i : Nat) (h1 : i < l.length) (h2 : i < m.length), R l[i] m[i]
  | _, _, .cons h _, 0, _, _ => h
  | _, _, .cons _ h, i + 1, h1, h2 => by simpa using h.get i (by simpa using h1) (by simpa using h2)
theorem All2.mono (hRS : ∀ a b, R a b → S a b) : ∀ {l : List α} {m : List β}, All2 R l m → All2 S l m
  | _, _, .nil => .nil
  | _, _, .cons h1 h2 => .cons (hRS _ _ h1) (h2.mono hRS)
theorem All2.append : ∀ {l l' : List α} {m m' : List β}, All2 R l m → All2 R l' m' → All2 R (l ++ l') (m ++ m')
  | _, _, _, _, .nil, h => h
  | _, _, _, _, .cons h1 h2, h => .cons h1 (h2.append h)
theorem All2.snoc {l : List α} {m : List β} {a : α} {b : β} (h : All2 R l m) (hab : R a b) : All2 R (l ++ [a]) (m ++ [b]) := h.append (.cons hab .nil)
theorem All2.take : ∀ {l : List α} {m : List β}, All2 R l m → ∀ n, All2 R (l.take n) (m.take n)
  | _, _, .nil, n => by simpa using All2.nil
  | _, _, .cons h1 h2, 0 => .nil
  | _, _, .cons h1 h2, n + 1 => .cons h1 (h2.take n)
theorem All2.drop : ∀ {l : List α} {m : List β}, All2 R l m → ∀ n, All2 R (l.drop n) (m.drop n)
  | _, _, .nil, n => by simpa using All2.nil
  | _, _, .cons h1 h2, 0 => .cons h1 h2
  | _, _, .cons h1 h2, n + 1 => h2.drop n
theorem All2.of : ∀ {l : List α} {m : List β}, l.length = m.length → (∀ i (h1 : i < l.length) (h2 : i < m.length), R l[i] m[i]) → All2 R l m
  | [], [], _, _ => .nil
  | [], _ :: _, h, _ => by simp at h
  | _ :: _, [], h, _ => by simp at h
  | a :: l, b :: m, h, hR => .cons (hR 0 (by simp) (by simp)) (All2.of (by simpa using h) fun i h1 h2 => hR (i + 1) (Nat.succ_lt_succ h1) (Nat.succ_lt_succ h2))
theorem All2.set {l : List α} {m : List β} (h : All2 R l m) (i : Nat) {a : α} {b : β} (hab : R a b) : All2 R (l.set i a) (m.set i b) :=
  All2.of (by simp [h.len]) fun j h1 h2 => by
    rw [List.getElem_set, List.getElem_set]
    split
    · exact hab
    · exact h.get j (by simpa using h1) (by simpa using h2)
theorem All2.left : ∀ {l : List α} {m : List β}, All2 R l m → ∀ {a}, a ∈ l → ∃ b, b ∈ m ∧ R a b
  | _, _, .cons h1 h2, a, ha => by
    rcases List.mem_cons.1 ha with rfl | ha
    · exact ⟨_, by simp, h1⟩
    · obtain ⟨b, hb, hr⟩ := h2.left ha
      exact ⟨b, by simp [hb], hr⟩
theorem All2.map {γ δ : Type} {T : γ → δ → Prop} (f : α → γ) (g : β → δ) (hf : ∀ a b, R a b → T (f a) (g b)) : ∀ {l : List α} {m : List β}, All2 R l m → All2 T (l.map f) (m.map g)
  | _, _, .nil => .nil
  | _, _, .cons h1 h2 => .cons (hf _ _ h1) (h2.map f g hf)
end

/-! ### Slices of related things -/
def RdF {H α : Type} (h : Hp) (v : Value) (enc : H → List Value) (sz : Nat) (rel : Hp → H → α → Prop) (l : List α) : Prop := ∃ hs, RdE h v enc sz hs ∧ All2 (rel h) hs l
class RelM {H α : Type} (rel : Hp → H → α → Prop) : Prop where
  mono : ∀ {h h' : Hp} {x : H} {a : α}, Hle h h' → rel h x a → rel h' x a
section
variable {H α : Type} {rel : Hp → H → α → Prop} {enc : H → List Value} {sz : Nat} {h h' : Hp} {v : Value} {l : List α}
theorem RdF.mono [hm : RelM rel] (hle : Hle h h') (hr : RdF h v enc sz rel l) : RdF h' v enc sz rel l := by
  obtain ⟨hs, h1, h2⟩ := hr
  exact ⟨hs, h1.mono hle, h2.mono fun _ _ => hm.mono hle⟩
theorem All2.monoR [hm : RelM rel] {hs : List H} (hle : Hle h h') (hr : All2 (rel h) hs l) : All2 (rel h') hs l := hr.mono fun _ _ => hm.mono hle
theorem RdF.nil (h : Hp) (enc : H → List Value) (sz : Nat) (rel : Hp → H → α → Prop) : RdF h (.slice none 0 0) enc sz rel [] := ⟨[], RdE.nil h enc sz, .nil⟩
variable {P : Program} {w0 : World} {h0 : Hp} {L : List Itm} {K : Value → WP} {KQ : WP → Value → WP} {t ty e by_ : Nat}
theorem Gs.lenF [ht : TSlice P t e sz by_] (hr : RdF h v enc sz rel l) (hn : l.length ≤ 9223372036854775807) (hk : Gs w0 h0 h L (K (I l.length))) : Gs w0 h0 h L (Do P (vBuiltin .len #[t] ty [v]) K) := by
  obtain ⟨hs, h1, h2⟩ := hr
  rw [← h2.len] at hk hn
  exact Gs.lenE h1 hn hk
theorem Gs.qlenF [ht : TSlice P t e sz by_] (hr : RdF h v enc sz rel l) (hn : l.length ≤ 9223372036854775807) (hk : Gs w0 h0 h L (KQ TrueC (I l.length))) : Gs w0 h0 h L (Qk P (vBuiltin .len #[t] ty [v]) KQ) := by
  obtain ⟨hs, h1, h2⟩ := hr
  rw [← h2.len] at hk hn
  exact Gs.qlenE h1 hn hk
theorem Gs.indexF {k : IntKind} {i : Nat} [ht : TSlice P t e sz by_] [he : Enc enc sz] (hr : RdF h v enc sz rel l) (hi : i < l.length) (hk : ∀ b o x, PtAt h b o (enc x) → rel h x l[i] → Gs w0 h0 h L (K (ptr b o))) : Gs w0 h0 h L (Do P (V (Instr.indexAt t v (.int k i))) K) := by
  obtain ⟨hs, h1, h2⟩ := hr
  exact Gs.indexE h1 (by rw [h2.len]; exact hi) fun b o hp => hk b o _ hp (h2.get i (by rw [h2.len]; exact hi) hi)
theorem Gs.qindexF {k : IntKind} {i : Nat} [ht : TSlice P t e sz by_] [he : Enc enc sz] (hr : RdF h v enc sz rel l) (hi : i < l.length) (hk : ∀ b o x, PtAt h b o (enc x) → rel h x l[i] → Gs w0 h0 h L (KQ TrueC (ptr b o))) : Gs w0 h0 h L (Qk P (V (Instr.indexAt t v (.int k i))) KQ) := by
  obtain ⟨hs, h1, h2⟩ := hr
  exact Gs.qindexE h1 (by rw [h2.len]; exact hi) fun b o hp => hk b o _ hp (h2.get i (by rw [h2.len]; exact hi) hi)
theorem Gs.cutF [ht : TSlice P t e sz by_] [he : Enc enc sz] {lo hi : Option Int} (hr : RdF h v enc sz rel l) (h1 : cutLo lo ≤ cutHi hi l.length) (h2 : cutHi hi l.length ≤ l.length) (hlo : ∀ i, lo = some i → 0 ≤ i) (hhi : ∀ i, hi = some i → 0 ≤ i)
    (hk : ∀ v', RdF h v' enc sz rel ((l.take (cutHi hi l.length)).drop (cutLo lo)) → Gs w0 h0 h L (K v')) : Gs w0 h0 h L (Do P (V (Instr.sliceAt t v (optI lo) (optI hi) none)) K) := by
  obtain ⟨hs, q1, q2⟩ := hr
  refine Gs.cutR q1 (by rw [q2.len]; exact h1) (by rw [q2.len]; exact h2) hlo hhi fun v' hv => hk v' ⟨_, hv, ?_⟩
  rw [q2.len]
  exact (q2.take _).drop _
theorem Gs.qcutF [ht : TSlice P t e sz by_] [he : Enc enc sz] {lo hi : Option Int} (hr : RdF h v enc sz rel l) (h1 : cutLo lo ≤ cutHi hi l.length) (h2 : cutHi hi l.length ≤ l.length) (hlo : ∀ i, lo = some i → 0 ≤ i) (hhi : ∀ i, hi = some i → 0 ≤ i)
    (hk : ∀ v', RdF h v' enc sz rel ((l.take (cutHi hi l.length)).drop (cutLo lo)) → Gs w0 h0 h L (KQ TrueC v')) : Gs w0 h0 h L (Qk P (V (Instr.sliceAt t v (optI lo) (optI hi) none)) KQ) := by
  obtain ⟨hs, q1, q2⟩ := hr
  refine Gs.qcutR q1 (by rw [q2.len]; exact h1) (by rw [q2.len]; exact h2) hlo hhi fun v' hv => hk v' ⟨_, hv, ?_⟩
  rw [q2.len]
  exact (q2.take _).drop _
end

/-- A slice's header. -/
abbrev SlH := Option Addr × Nat × Nat
abbrev slv (x : SlH) : Value := .slice x.1 x.2.1 x.2.2
abbrev eSlH : SlH → List Value := fun x => [slv x]
instance : Enc eSlH 1 := ⟨fun _ => rfl, fun a v h => by simp only [eSlH, List.mem_singleton] at h; subst h; rfl⟩
theorem RdE.hdr {α : Type} {h : Hp} {v : Value} {enc : α → List Value} {sz : Nat} {l : List α} (hr : RdE h v enc sz l) : ∃ x : SlH, v = slv x := by
  obtain ⟨_, a, cap, rfl, _⟩ := hr
  exact ⟨(a, l.length, cap), rfl⟩
theorem RdF.hdr {H α : Type} {h : Hp} {v : Value} {enc : H → List Value} {sz : Nat} {rel : Hp → H → α → Prop} {l : List α} (hr : RdF h v enc sz rel l) : ∃ x : SlH, v = slv x := by
  obtain ⟨hs, h1, _⟩ := hr
  exact h1.hdr
def intsR : Hp → SlH → List Int → Prop := fun h x l => RdE h (slv x) eInt 1 l
instance : RelM intsR := ⟨fun hle hr => RdE.mono hle hr⟩

/-! ### Strings in order -/
section
variable {P : Program} {S : WP} {K : Value → WP}
theorem run_strOp {op : BinOp} {t : TypeId} {a b : List UInt8} (h : op = .lss ∨ op = .leq ∨ op = .gtr ∨ op = .geq) (w : World) : (binOp op t (Str a) (Str b)).run P w = (Op.stringOp op ⟨a.toArray⟩ ⟨b.toArray⟩).run P w := by
  rcases h with rfl | rfl | rfl | rfl <;> rfl
instance Yd.slss {t : TypeId} {a b : List UInt8} : Yd P S (V (binOp .lss t (Str a) (Str b))) (.bool (Op.bytesLess a b)) := Yd.of fun w => by
  rw [run_strOp (.inl rfl)]
  simp [Op.stringOp, pure, Sem.run]
end
end Go.Sk
end

section
/-
  The walk: the library's small generic functions over slices, whatever the elements.
-/
set_option linter.unusedVariables false
set_option linter.unusedSimpArgs false
namespace Go.Sk
open Go Go.RowKit
variable {M : Mode} {P : Program} {w0 : World} {h0 h : Hp} {L R : List Itm} {K : Value → WP}

/-! ### IndexFunc -/
def sIdx (t e : TypeId) (P : Program) (arg0 arg1 : Value) (K : Value → WP) : WP :=
  Do P (vBuiltin .len #[t] 3 [arg0]) fun t1_7 =>
  Lp (α := Value) (fun c2 s2 => Jk fun _ =>
   Do P (V (binOp .lss 3 s2 t1_7)) fun t3_9 =>
   If t3_9 (
    Do P (V (Instr.indexAt t arg0 s2)) fun t4_14 =>
    Do P (V (Instr.loadAt e t4_14)) fun t5_15 =>
    Do P (vCall arg1 [t5_15]) fun t6_16 =>
    If t6_16 (
     K s2
    ) (
     Do P (V (binOp .add 3 s2 (.int .i64 1))) fun t7_18 =>
     c2 t7_18
    )
   ) (
    K (.int .i64 (-1))
   )
  ) (.int .i64 0)
/-- The first place, from i on, where p holds. -/
def idxOf {α : Type} (p : α → Bool) : List α → Nat → Int
  | [], _ => -1
  | x :: r, i => if p x then i else idxOf p r (i + 1)
theorem idxOf_any {α : Type} (p : α → Bool) : ∀ (l : List α) (i : Nat), decide (0 ≤ idxOf p l i) = l.any p
  | [], i => by simp [idxOf]
  | x :: r, i => by
    unfold idxOf
    cases hp : p x
    · simp [hp, idxOf_any p r (i + 1)]
    · simp [hp]
theorem idxOf_ge {α : Type} (p : α → Bool) : ∀ (l : List α) (i : Nat), -1 ≤ idxOf p l i ∧ (idxOf p l i = -1 ∨ (i : Int) ≤ idxOf p l i) ∧ idxOf p l i < i + l.length + 1
  | [], i => by simp [idxOf]; omega
  | x :: r, i => by
    unfold idxOf
    have := idxOf_ge p r (i + 1)
    split
    · simp; omega
    · simp only [List.length_cons]; omega
/-- What a load of an element yields. -/
class LdE {α : Type} (P : Program) (e : TypeId) (enc : α → List Value) (val : outParam (α → Value)) : Prop where
  ok : ∀ (h : Hp) b o x, PtAt h b o (enc x) → Yd P (FrzC h) (V (Instr.loadAt e (ptr b o))) (val x)
  own : ∀ (v : Value) (e' sz : Nat) (xs : List Value) b o x, OPt v xs b o (enc x) → Yd P (SlC v e' sz xs) (V (Instr.loadAt e (ptr b o))) (val x)
instance LdE.int {e : TypeId} [TOne P e] : LdE P e eInt (fun n => I n) := ⟨fun h b o x hp => loadP1 (cs := []) hp, fun v e' sz xs b o x hp => oloadP1 (cs := []) hp⟩
instance LdE.str {e : TypeId} [TOne P e] : LdE P e eStr (fun n => Str n) := ⟨fun h b o x hp => loadP1 (cs := []) hp, fun v e' sz xs b o x hp => oloadP1 (cs := []) hp⟩
instance LdE.slh {e : TypeId} [TOne P e] : LdE P e eSlH (fun n => slv n) := ⟨fun h b o x hp => loadP1 (cs := []) hp, fun v e' sz xs b o x hp => oloadP1 (cs := []) hp⟩
theorem LdE.agg {α : Type} {e n : TypeId} [ht : TAgg P e n] {enc : α → List Value} [he : Enc enc n] : LdE P e enc (fun x => .agg (enc x).toArray) := ⟨fun h b o x hp => loadPN hp (he.len x), fun v e' sz xs b o x hp => oloadPN hp (he.len x)⟩
section
variable {α : Type} {enc : α → List Value} {sz : Nat} {val : α → Value} {v : Value} {l : List α} {t e by_ : Nat}
theorem Gs.loadE [hl : LdE P e enc val] {b o : Nat} {x : α} (hp : PtAt h b o (enc x)) (hk : Gs w0 h0 h L (K (val x))) : Gs w0 h0 h L (Do P (V (Instr.loadAt e (ptr b o))) K) := ⟨fun w s =>
  Do.of ((hl.ok h b o x hp).run w s.frozen) (hk.run w s)⟩
theorem Gs.qloadE [hl : LdE P e enc val] {KQ : WP → Value → WP} {b o : Nat} {x : α} (hp : PtAt h b o (enc x)) (hk : Gs w0 h0 h L (KQ (FrzC h) (val x))) : Gs w0 h0 h L (Qk P (V (Instr.loadAt e (ptr b o))) KQ) :=
  haveI := hl.ok h b o x hp
  G.qk (FrzC h) (fun w s => s.frozen) hk
theorem Gs.oloadE [hl : LdE P e enc val] {e' sz' b o : Nat} {xs : List Value} {x : α} [hs : Sl L v e' sz' xs] (hp : OPt v xs b o (enc x)) (hk : Gs w0 h0 h L (K (val x))) : Gs w0 h0 h L (Do P (V (Instr.loadAt e (ptr b o))) K) := ⟨fun w s =>
  Do.of ((hl.own v e' sz' xs b o x hp).run w (s.sl hs.mem)) (hk.run w s)⟩
theorem Gs.qoloadE [hl : LdE P e enc val] {KQ : WP → Value → WP} {e' sz' b o : Nat} {xs : List Value} {x : α} [hs : Sl L v e' sz' xs] (hp : OPt v xs b o (enc x)) (hk : Gs w0 h0 h L (KQ (SlC v e' sz' xs) (val x))) : Gs w0 h0 h L (Qk P (V (Instr.loadAt e (ptr b o))) KQ) :=
  haveI := hl.own v e' sz' xs b o x hp
  G.qk (SlC v e' sz' xs) (fun w s => s.sl hs.mem) hk
theorem sIdx_ok [ht : TSlice P t e sz by_] [he : Enc enc sz] [hl : LdE P e enc val] {f : Value} (p : α → Bool) (hr : RdE h v enc sz l) (hn : l.length ≤ 4611686018427387904)
    (hf : ∀ (K : Value → WP) x, x ∈ l → Gs w0 h0 h L (K (.bool (p x))) → Gs w0 h0 h L (Do P (vCall f [val x]) K))
    (hk : Gs w0 h0 h L (K (I (idxOf p l 0)))) : Gs w0 h0 h L (sIdx t e P v f K) := by
  unfold sIdx
  refine Gs.lenE hr (by omega) ?_
  refine Gs.lp (β := Nat) (fun i => I i) (fun _ => h) (fun _ => L) (fun i => i ≤ l.length ∧ idxOf p (l.drop i) i = idxOf p l 0) (fun i => l.length - i) 0 rfl ⟨Nat.zero_le _, rfl⟩ (fun _ h => h) ?_
  rintro i ⟨hi, hR⟩ cont hc
  refine G.jk ?_; intro _
  refine G.step ?_
  refine G.ifd ?_ ?_ <;> intro hlt
  · have hlt' : i < l.length := by omega
    have hd : idxOf p (l.drop i) i = if p l[i] then (i : Int) else idxOf p (l.drop (i + 1)) (i + 1) := by
      rw [List.drop_eq_getElem_cons hlt']
      rfl
    refine Gs.indexE hr hlt' ?_
    intro b o hp
    refine Gs.loadE hp ?_
    refine hf _ _ (List.getElem_mem hlt') ?_
    cases hpx : p l[i]
    · refine G.iff ?_
      refine G.add (by omega) ?_
      refine Gs.go (hc (i + 1) ⟨hlt', ?_⟩ (by omega)) rfl
      rw [← hR, hd, hpx]; simp
    · refine G.ift ?_
      rw [← hR, hd, hpx] at hk
      exact hk
  · have hi' : i = l.length := by omega
    rw [← hR, hi', List.drop_length] at hk
    exact hk
end

/-! ### A cut that shares the block of an owned slice -/
def CutAt (v v' : Value) (sz n k : Nat) : Prop := ∃ b off cap, v = .slice (some ⟨b, off, none⟩) n cap ∧ v' = .slice (some ⟨b, off + k * sz, none⟩) (n - k) (cap - k)
section
variable {α : Type} {enc : α → List Value} {sz : Nat} {val : α → Value} {v v' : Value} {l : List α} {t e e' by_ ty : Nat} {KQ : WP → Value → WP}
theorem Gs.cutAt [ht : TSlice P t e sz by_] [he : Enc enc sz] [hs : Sl L v e' sz (fl enc l)] {k : Nat} (hk : k < l.length) (hK : ∀ v', CutAt v v' sz l.length k → Gs w0 h0 h L (K v')) : Gs w0 h0 h L (Do P (V (Instr.sliceAt t v (some (I k)) none none)) K) := ⟨fun w s => by
  obtain ⟨_, _, _, _, _, h5⟩ := ht.spec
  obtain ⟨b, off, cap, hv, _⟩ := own_at (enc := enc) (l := l) (i := k) hk h5 (s.sl hs.mem)
  obtain ⟨_, cap', hc⟩ : ∃ a cap', v = .slice a l.length cap' := own_len h5 (s.sl hs.mem)
  have hcl : l.length ≤ cap := by
    have hok := s.sl hs.mem
    rw [hv] at hok
    rcases hok with ⟨q, _⟩ | ⟨b', off', n2, cap2, pre, post, q, _, _, _, q5, _⟩
    · cases q
    · cases q; exact q5
  have hr := run_cut (P := P) (t := t) (e := e) (sz := sz) (by_ := by_) (a := some ⟨b, off, none⟩) (n := l.length) (cap := cap) (lo := some (k : Int)) (hi := none) hcl (by simp [cutLo, cutHi]; omega) (by simp [cutHi]; omega) (fun i hi => by cases hi; omega) (fun i hi => by cases hi) w
  have hne : ¬ cap = cutLo (some (k : Int)) := by simp [cutLo]; omega
  rw [if_neg hne] at hr
  subst hv
  refine Do.of hr ((hK _ ⟨b, off, cap, rfl, ?_⟩).run w s)
  simp [cutLo, cutHi, add_addr]⟩
theorem Gs.lenC [ht : TSlice P t e sz by_] {n k : Nat} (hc : CutAt v v' sz n k) (hn : n ≤ 9223372036854775807) (hk : Gs w0 h0 h L (K (I (n - k : Nat)))) : Gs w0 h0 h L (Do P (vBuiltin .len #[t] ty [v']) K) := ⟨fun w s => by
  obtain ⟨b, off, cap, _, rfl⟩ := hc
  exact Do.of (run_len w) (by rw [goInt_small (by omega)]; exact hk.run w s)⟩
theorem indexC [ht : TSlice P t e sz by_] [he : Enc enc sz] {k i : Nat} {kk : IntKind} (hc : CutAt v v' sz l.length k) (hi : k + i < l.length) {w : World} (hok : slOk v e' sz (fl enc l) (World.hp w)) :
    ∃ b o, (∀ w', (V (Instr.indexAt t v' (.int kk i))).run P w' = .ok (.value (ptr b o)) w') ∧ OPt v (fl enc l) b o (enc l[k + i]) := by
  obtain ⟨_, _, _, _, _, h5⟩ := ht.spec
  obtain ⟨b, off, cap, hv, ho⟩ := own_at (enc := enc) (l := l) (i := k + i) hi h5 hok
  obtain ⟨b2, off2, cap2, hv2, rfl⟩ := hc
  rw [hv2] at hv
  cases hv
  refine ⟨b, off + k * sz + i * sz, fun w' => ?_, ?_⟩
  · have := indexAt_run (P := P) (t := t) (e := e) (sz := sz) (by_ := by_) (n := l.length - k) (cap := cap - k) (b := b) (o := off + k * sz) (k := kk) (i := (i : Int)) ⟨by omega, by omega⟩ w'
    rw [Int.toNat_natCast] at this
    exact this
  · rw [Nat.add_mul, ← Nat.add_assoc] at ho
    exact ho
theorem Gs.oindexC [ht : TSlice P t e sz by_] [he : Enc enc sz] {k i : Nat} {kk : IntKind} [hs : Sl L v e' sz (fl enc l)] (hc : CutAt v v' sz l.length k) (hi : k + i < l.length) (hk : ∀ b o, OPt v (fl enc l) b o (enc l[k + i]) → Gs w0 h0 h L (K (ptr b o))) : Gs w0 h0 h L (Do P (V (Instr.indexAt t v' (.int kk i))) K) := ⟨fun w s => by
  obtain ⟨b, o, h1, h2⟩ := indexC (P := P) (t := t) (kk := kk) hc hi (s.sl hs.mem)
  exact Do.of (h1 w) ((hk b o h2).run w s)⟩
theorem Gs.qoindexC [ht : TSlice P t e sz by_] [he : Enc enc sz] {k i : Nat} {kk : IntKind} [hs : Sl L v e' sz (fl enc l)] (hc : CutAt v v' sz l.length k) (hi : k + i < l.length) (hk : ∀ b o, OPt v (fl enc l) b o (enc l[k + i]) → Gs w0 h0 h L (KQ TrueC (ptr b o))) : Gs w0 h0 h L (Qk P (V (Instr.indexAt t v' (.int kk i))) KQ) := ⟨fun w s => by
  obtain ⟨b, o, h1, h2⟩ := indexC (P := P) (t := t) (kk := kk) hc hi (s.sl hs.mem)
  haveI : Yd P TrueC (V (Instr.indexAt t v' (.int kk i))) (ptr b o) := ⟨fun w' _ => h1 w'⟩
  exact (G.qkp (S := St w0 h0 h L) (hk b o h2)).run w s⟩
/-- An element of an owned slice, written over. -/
theorem Gs.setE {te : TypeId} [ht : TSlice P t e sz by_] [hz : TSize P te sz] [he : Enc enc sz] [htk : TakeS L v e sz (fl enc l) R] {i : Nat} {kk : IntKind} (hi : i < l.length) {u : Value} {a : α} [hc : Cells u (enc a)] {KP : Value → Value → WP}
    (hk : ∀ p, Gs w0 h0 h (.sl v e sz (fl enc (l.set i a)) :: R) (KP p undef)) : Gs w0 h0 h L (Do P (V (Instr.indexAt t v (.int kk i))) fun p => Do P (U (Instr.storeAt te p u)) (KP p)) := Gs.perm htk.perm ⟨fun w s => by
  obtain ⟨_, _, _, _, _, h5⟩ := ht.spec
  obtain ⟨b, off, cap, hv, ho⟩ := own_at (enc := enc) (l := l) (i := i) hi h5 s.head_sl
  subst hv
  have hr := indexAt_run (P := P) (t := t) (e := e) (sz := sz) (by_ := by_) (n := l.length) (cap := cap) (b := b) (o := off) (k := kk) (i := (i : Int)) ⟨by omega, by omega⟩ w
  rw [Int.toNat_natCast] at hr
  refine Do.of hr ?_
  haveI : Flat (enc a) := ⟨he.flat a⟩
  haveI : LenIs (enc a) sz := ⟨he.len a⟩
  have := Gs.ostore (P := P) (w0 := w0) (h0 := h0) (h := h) (L := .sl (.slice (some ⟨b, off, none⟩) l.length cap) e sz (fl enc l) :: R) (R := R) (enc := enc) (l := l) (te := te) (n := sz) (u := u) (cs := enc a) (pa := []) (pc := enc l[i]) (c := 0) (i := i) (a := a) (b := b) (o := off + i * sz) (v := .slice (some ⟨b, off, none⟩) l.length cap) (K := KP (ptr b (off + i * sz))) hi ho ⟨off, l.length, cap, rfl, rfl⟩
    (by simp [List.drop_eq_nil_of_le (Nat.le_of_eq (he.len l[i]))]) (by omega) (hk _)
  rw [Nat.add_zero] at this
  exact this.run w s⟩
theorem zeroCells_fl {α : Type} {enc : α → List Value} {sz : Nat} [he : Enc enc sz] (hsz : sz ≠ 0) (a0 : α) (n : Nat) : (Builtin.zeroCells (enc a0).toArray n).toList = fl enc (List.replicate n a0) := by
  unfold Builtin.zeroCells
  apply List.ext_getElem?
  intro j
  have hlz : (enc a0).length = sz := he.len a0
  have hlr := fl_len (enc := enc) (List.replicate n a0)
  rw [List.length_replicate] at hlr
  by_cases hj : j < n * sz
  · have hi : j / sz < (List.replicate n a0).length := by
      rw [List.length_replicate]
      exact (Nat.div_lt_iff_lt_mul (Nat.pos_of_ne_zero hsz)).2 hj
    have hm : j % sz < sz := Nat.mod_lt _ (Nat.pos_of_ne_zero hsz)
    have hch := fl_chunk (enc := enc) (List.replicate n a0) (j / sz) hi
    rw [List.getElem_replicate] at hch
    have hget : (chunk (fl enc (List.replicate n a0)) sz (j / sz))[j % sz]? = some ((enc a0)[j % sz]'(by omega)) := by rw [hch]; exact List.getElem?_eq_getElem _
    have := chunk_get hget
    rw [Nat.div_add_mod' j sz] at this
    rw [this]
    simp [hj, hlz, hm]
  · rw [List.getElem?_eq_none (by simp [hlz]; omega), List.getElem?_eq_none (by rw [hlr]; omega)]
/-- clear, from a place on. -/
theorem Gs.clearC {z : List Value} {a0 : α} [ht : TSlice P t e sz by_] [hz : TZero P e z] [he : Enc enc sz] (hza : enc a0 = z) [htk : TakeS L v e sz (fl enc l) R] {k : Nat} (hk : k < l.length) (hc : CutAt v v' sz l.length k)
    (hK : Gs w0 h0 h (.sl v e sz (fl enc (l.take k ++ List.replicate (l.length - k) a0)) :: R) (K (.tuple #[]))) : Gs w0 h0 h L (Do P (vBuiltin .clear #[t] ty [v']) K) := Gs.perm htk.perm ⟨fun w s => by
  obtain ⟨inf, u1, u2, u3, u4, u5⟩ := ht.spec
  obtain ⟨i', zv, q1, q2, q3⟩ := hz.spec
  obtain ⟨b, off, cap, rfl, rfl⟩ := hc
  rcases s.head_sl with ⟨hv, _⟩ | ⟨b', off', n2, cap', pre, post, hv, hb, h3, h4, h5, h6⟩
  · cases hv
  · cases hv
    have hzz : (Builtin.zeroCells zv.cells (l.length - k)).toList = fl enc (List.replicate (l.length - k) a0) := by
      rw [q3, ← hza]
      exact zeroCells_fl u5 a0 _
    have hlen := fl_len (enc := enc) l
    have hlt : k * sz ≤ l.length * sz := Nat.mul_le_mul_right _ (Nat.le_of_lt hk)
    have hsub : l.length * sz - k * sz = (l.length - k) * sz := by rw [Nat.sub_mul]
    have hbk : w.heap[b]? = some (.cells ((pre ++ fl enc (l.take k)) ++ fl enc (l.drop k) ++ post).toArray e (0, 0)) := by
      have hb' : w.heap[b]? = some (.cells (pre ++ fl enc l ++ post).toArray e (0, 0)) := hb
      rw [hb']
      congr 3
      have : fl enc l = fl enc (l.take k) ++ fl enc (l.drop k) := by rw [← fl_append, List.take_append_drop]
      rw [this]
      simp only [List.append_assoc]
    obtain ⟨w', g1, g2, g3, g4, g5, g6, g7, g8⟩ := run_storeCells (P := P) (fl enc (List.replicate (l.length - k) a0)) _ _ _ (off + k * sz) 0 w hbk (by rw [List.length_append, fl_len, List.length_take, Nat.min_eq_left (Nat.le_of_lt hk), h3]; omega) (by rw [fl_len, fl_len]; simp) (fun v hv a => ⟨fun e => (by have := fl_flat (enc := enc) _ v hv; rw [e] at this; cases this), fun e => (by have := fl_flat (enc := enc) _ v hv; rw [e] at this; cases this)⟩)
    obtain ⟨m, hm⟩ : ∃ m, l.length - k = m + 1 := ⟨l.length - k - 1, by omega⟩
    have hr : (vBuiltin .clear #[t] ty [.slice (some ⟨b, off + k * sz, none⟩) (l.length - k) (cap - k)]).run P w = .ok (.value (.tuple #[])) w' := by
      refine run_vB' (s := Builtin.clear_ #[t] ty #[.slice (some ⟨b, off + k * sz, none⟩) (l.length - k) (cap - k)]) rfl ?_
      rw [hm] at g1 hzz ⊢
      unfold Builtin.clear_
      simp only [List.getElem?_toArray, List.getElem?_cons_zero, Sem.run_bind, runU u1, Result.andThen_ok, run_zeroValue q1 q2, hzz, g1]
      rfl
    refine Do.of hr (hK.run w' (s.write (it' := .sl _ e sz (fl enc (l.take k ++ List.replicate (l.length - k) a0))) (b := b) rfl rfl g4 g5 g6 g7 g3 (.inr ⟨b, off, l.length, cap, pre, post, rfl, ?_, h3, ?_, h5, h6⟩) (fun _ => Nat.le_of_eq g8.symm)))
    · show w'.heap[b]? = _
      rw [g2, fl_append]
      simp only [List.append_assoc]
    · rw [fl_len, ← h4, hlen]
      simp
      rw [Nat.min_eq_left (Nat.le_of_lt hk)]
      congr 1
      omega⟩
end
end Go.Sk
end

section
/-
  The walk: the library's CompactFunc, BinarySearchFunc, Clone and SortFunc, whatever the elements.
-/
set_option linter.unusedVariables false
set_option linter.unusedSimpArgs false
namespace Go.Sk
open Go Go.RowKit
variable {M : Mode} {P : Program} {w0 : World} {h0 h : Hp} {L R : List Itm} {K : Value → WP}

/-! ### CompactFunc -/
def sCompact (t e : TypeId) (P : Program) (arg0 arg1 : Value) (K : Value → WP) : WP :=
  Do P (vBuiltin .len #[t] 3 [arg0]) fun t1_9 =>
  Do P (V (binOp .lss 3 t1_9 (.int .i64 2))) fun t2_10 =>
  If t2_10 (
   K arg0
  ) (
   Lp (α := Value) (fun c3 s3 => Jk fun _ =>
    Do P (vBuiltin .len #[t] 3 [arg0]) fun t4_14 =>
    Do P (V (binOp .lss 3 s3 t4_14)) fun t5_15 =>
    If t5_15 (
     Dr <|
     Qk P (V (Instr.indexAt t arg0 s3)) fun C6 t6_21 =>
     Qk P (V (Instr.loadAt e t6_21)) fun C7 t7_22 =>
     Qk P (V (binOp .sub 3 s3 (.int .i64 1))) fun C8 t8_25 =>
     Qk P (V (Instr.indexAt t arg0 t8_25)) fun C9 t9_26 =>
     Qk P (V (Instr.loadAt e t9_26)) fun C10 t10_27 =>
     Do P (vCall arg1 [t7_22, t10_27]) fun t11_28 =>
     If t11_28 (
      Do P (V (Instr.sliceAt t arg0 (some s3) none none)) fun t12_31 =>
      Lp (α := Value × Value) (fun c13 s13 => Jk fun _ =>
       Do P (vBuiltin .len #[t] 3 [t12_31]) fun t14_34 =>
       Do P (V (binOp .lss 3 s13.2 t14_34)) fun t15_35 =>
       If t15_35 (
        Jn (α := Value) (fun j16 => Jk fun _ =>
         Do P (V (binOp .add 3 s13.2 (.int .i64 1))) fun t17_37 =>
         c13 (j16, t17_37)
        ) fun k16 =>
        Dr <|
        Qk P (V (Instr.indexAt t t12_31 s13.2)) fun C18 t18_41 =>
        Qk P (V (Instr.loadAt e t18_41)) fun C19 t19_42 =>
        Qk P (V (binOp .sub 3 s13.2 (.int .i64 1))) fun C20 t20_45 =>
        Qk P (V (Instr.indexAt t t12_31 t20_45)) fun C21 t21_46 =>
        Qk P (V (Instr.loadAt e t21_46)) fun C22 t22_47 =>
        Do P (vCall arg1 [t19_42, t22_47]) fun t23_48 =>
        Qk P (V (Op.unary .not t23_48)) fun C24 t24_49 =>
        If t24_49 (
         Do P (V (Instr.indexAt t t12_31 s13.2)) fun t25_54 =>
         Do P (V (Instr.loadAt e t25_54)) fun t26_55 =>
         Do P (V (Instr.indexAt t arg0 s13.1)) fun t27_56 =>
         Do P (U (Instr.storeAt e t27_56 t26_55)) fun t28_x =>
         Do P (V (binOp .add 3 s13.1 (.int .i64 1))) fun t29_58 =>
         k16 t29_58
        ) (
         k16 s13.1
        )
       ) (
        Do P (V (Instr.sliceAt t arg0 (some s13.1) none none)) fun t30_61 =>
        Do P (vBuiltin .clear #[t] 0 [t30_61]) fun t31_x =>
        Do P (V (Instr.sliceAt t arg0 none (some s13.1) none)) fun t32_64 =>
        K t32_64
       )
      ) (s3, (.int .i64 1))
     ) (
      Do P (V (binOp .add 3 s3 (.int .i64 1))) fun t33_17 =>
      c3 t33_17
     )
    ) (
     K arg0
    )
   ) (.int .i64 1)
  )
/-- Neighbours that are alike, but for the first of them, left out. -/
def cl {α : Type} (e : α → α → Bool) : α → List α → List α
  | _, [] => []
  | p, y :: r => if e y p then cl e y r else y :: cl e y r
def compactL {α : Type} (e : α → α → Bool) : List α → List α
  | [] => []
  | x :: r => x :: cl e x r
theorem cl_snoc {α : Type} (e : α → α → Bool) (y : α) : ∀ (r : List α) (p : α), cl e p (r ++ [y]) = cl e p r ++ (if e y ((p :: r).getLast (by simp)) then [] else [y])
  | [], p => by
    show cl e p [y] = _
    unfold cl
    by_cases h : e y p = true <;> simp [h, cl]
  | z :: r, p => by
    simp only [List.cons_append, cl]
    rw [cl_snoc e y r z]
    have : (p :: z :: r).getLast (by simp) = (z :: r).getLast (by simp) := List.getLast_cons (by simp)
    rw [this]
    split <;> simp
theorem compactL_take {α : Type} (e : α → α → Bool) (l : List α) (m : Nat) (h0 : 0 < m) (h1 : m < l.length) : compactL e (l.take (m + 1)) = compactL e (l.take m) ++ (if e l[m] (l[m - 1]'(by omega)) then [] else [l[m]]) := by
  have e1 : l.take (m + 1) = l.take m ++ [l[m]] := (List.take_append_getElem h1).symm
  rw [e1]
  cases l with
  | nil => simp at h1
  | cons a r =>
    obtain ⟨k, rfl⟩ : ∃ k, m = k + 1 := ⟨m - 1, by omega⟩
    simp only [List.take_succ_cons, List.cons_append, compactL]
    rw [cl_snoc]
    have : (a :: r.take k).getLast (by simp) = (a :: r)[k + 1 - 1]'(by omega) := by
      rw [List.getLast_eq_getElem]
      have hl : (a :: r.take k).length - 1 = k := by simp at h1 ⊢; omega
      simp only [hl, Nat.add_sub_cancel]
      cases k with
      | zero => rfl
      | succ k => simp
    rw [this]
theorem compactL_len {α : Type} (e : α → α → Bool) : ∀ (l : List α), (compactL e l).length ≤ l.length
  | [] => Nat.le_refl _
  | x :: r => by
    have : ∀ (r : List α) (p : α), (cl e p r).length ≤ r.length := by
      intro r
      induction r with
      | nil => intro p; exact Nat.le_refl _
      | cons y r ih =>
        intro p
        unfold cl
        have := ih y
        split <;> simp <;> omega
    simp [compactL, this]
section
variable {α : Type} {enc : α → List Value} {sz : Nat} {val : α → Value} {v : Value} {l : List α} {t e by_ : Nat} {z : List Value} {a0 : α}
theorem sCompact_ok [ht : TSlice P t e sz by_] [hz : TZero P e z] [hts : TSize P e sz] [he : Enc enc sz] [hl : LdE P e enc val] [hcv : ∀ x, Cells (val x) (enc x)] (hza : enc a0 = z) {f : Value} (eqv : α → α → Bool) [htk : TakeS L v e sz (fl enc l) R] (hn : l.length ≤ 4611686018427387904)
    (hf : ∀ (L' : List Itm) (K : Value → WP) x y, x ∈ l → y ∈ l → Gs w0 h0 h L' (K (.bool (eqv x y))) → Gs w0 h0 h L' (Do P (vCall f [val x, val y]) K))
    (hk : ∀ v', Gs w0 h0 h (.sl v' e sz (fl enc (compactL eqv l)) :: R) (K v')) : Gs w0 h0 h L (sCompact t e P v f K) := Gs.perm htk.perm (by
  unfold sCompact
  refine Gs.olen (by omega) ?_
  refine G.step ?_
  refine G.ifd ?_ ?_ <;> intro h2
  · have : compactL eqv l = l := by
      match l, h2 with
      | [], _ => rfl
      | [a], _ => rfl
      | a :: b :: r, h2 => simp at h2; omega
    rw [this] at hk
    exact hk v
  refine Gs.lp (β := Nat) (fun i => I i) (fun _ => h) (fun _ => .sl v e sz (fl enc l) :: R) (fun i => 1 ≤ i ∧ i ≤ l.length ∧ compactL eqv (l.take i) = l.take i) (fun i => l.length - i) 1 rfl ⟨Nat.le_refl _, by omega, ?_⟩ (fun _ h => h) ?_
  · match l, h2 with
    | a :: r, _ => simp [compactL, cl]
    | [], h2 => simp at h2
  rintro i ⟨hi1, hi2, hR⟩ cont hc
  refine G.jk ?_; intro _
  refine Gs.olen (by omega) ?_
  refine G.step ?_
  refine G.ifd ?_ ?_ <;> intro hlt
  · have hlt' : i < l.length := by omega
    refine Gs.dr ?_
    refine Gs.qoindex hlt' ?_
    intro b o hp
    refine Gs.qoloadE hp ?_
    refine G.qsub (by omega) ?_
    have e1 : (i : Int) - 1 = ((i - 1 : Nat) : Int) := by omega
    rw [e1]
    refine Gs.qoindex (i := i - 1) (by omega) ?_
    intro b' o' hp'
    refine Gs.qoloadE hp' ?_
    refine hf _ _ _ _ (List.getElem_mem _) (List.getElem_mem _) ?_
    have hst := compactL_take eqv l i (by omega) hlt'
    cases hq : eqv l[i] (l[i - 1]'(by omega))
    · refine G.iff ?_
      refine G.add (by omega) ?_
      refine Gs.go (hc (i + 1) ⟨by omega, by omega, ?_⟩ (by omega)) rfl
      rw [hst, hq, hR]
      simp
    · refine G.ift ?_
      refine Gs.cutAt hlt' ?_
      intro v' hcut
      refine Gs.lp (β := List α × Nat × Nat) (fun g => (I g.2.1, I g.2.2)) (fun _ => h) (fun g => .sl v e sz (fl enc g.1) :: R)
        (fun g => g.1.length = l.length ∧ 1 ≤ g.2.2 ∧ g.2.2 ≤ l.length - i ∧ i ≤ g.2.1 ∧ g.2.1 ≤ i + g.2.2 - 1 ∧ g.1.take g.2.1 = compactL eqv (l.take (i + g.2.2)) ∧ g.1.drop (i + g.2.2 - 1) = l.drop (i + g.2.2 - 1)) (fun g => l.length - i - g.2.2) (l, i, 1) rfl
        ⟨rfl, Nat.le_refl _, by dsimp only; omega, Nat.le_refl _, by dsimp only; omega, by dsimp only; rw [hst, hq, hR]; simp, rfl⟩ (fun _ h => h) ?_
      rintro ⟨c, k, j⟩ ⟨hcl, hj1, hj2, hk1, hk2, hck, hcd⟩ cont2 hc2
      dsimp only at *
      refine G.jk ?_; intro _
      refine Gs.lenC hcut (by omega) ?_
      refine G.step ?_
      refine G.ifd ?_ ?_ <;> intro hj
      · have hj' : i + j < l.length := by omega
        have hget : ∀ q (h1 : q < c.length) (h2 : q < l.length), i + j - 1 ≤ q → c[q] = l[q] := by
          intro q h1 h2 h3
          have e3 : (c.drop (i + j - 1))[q - (i + j - 1)]? = (l.drop (i + j - 1))[q - (i + j - 1)]? := by rw [hcd]
          rw [List.getElem?_drop, List.getElem?_drop, show i + j - 1 + (q - (i + j - 1)) = q by omega, List.getElem?_eq_getElem h1, List.getElem?_eq_getElem h2] at e3
          exact Option.some.inj e3
        rw [← hcl] at hcut
        refine G.jn ?_
        refine Gs.dr ?_
        refine Gs.qoindexC (l := c) hcut (by omega) ?_
        intro b2 o2 hp2
        refine Gs.qoloadE hp2 ?_
        refine G.qsub (by omega) ?_
        have e2 : (j : Int) - 1 = ((j - 1 : Nat) : Int) := by omega
        rw [e2]
        refine Gs.qoindexC (l := c) hcut (i := j - 1) (by omega) ?_
        intro b3 o3 hp3
        refine Gs.qoloadE hp3 ?_
        have g1 : c[i + j]'(by omega) = l[i + j] := hget _ _ _ (by omega)
        have g2 : c[i + (j - 1)]'(by omega) = l[i + (j - 1)]'(by omega) := hget _ _ _ (by omega)
        rw [g1, g2]
        refine hf _ _ _ _ (List.getElem_mem _) (List.getElem_mem _) ?_
        refine G.qkp ?_
        have hst2 := compactL_take eqv l (i + j) (by omega) hj'
        have e4 : i + j - 1 = i + (j - 1) := by omega
        simp only [e4] at hst2
        cases hq2 : eqv l[i + j] (l[i + (j - 1)]'(by omega))
        · refine G.ift ?_
          refine Gs.oindexC (l := c) hcut (by omega) ?_
          intro b4 o4 hp4
          refine Gs.oloadE hp4 ?_
          rw [g1]
          haveI := hcv l[i + j]
          refine Gs.setE (l := c) (a := l[i + j]) (i := k) (by omega) ?_
          intro _
          refine G.add (by omega) ?_
          refine G.jk ?_; intro _
          refine G.add (by omega) ?_
          refine Gs.go (hc2 (c.set k l[i + j], k + 1, j + 1) ⟨by simp [hcl], by dsimp only; omega, by dsimp only; omega, by dsimp only; omega, by dsimp only; omega, ?_, ?_⟩ (by dsimp only; omega)) rfl
          · dsimp only
            rw [← Nat.add_assoc, hst2, hq2, ← hck]
            simp only [Bool.false_eq_true, if_false]
            rw [List.take_add_one, List.take_set_of_le (Nat.le_refl _), List.getElem?_set_self (by omega)]
            rfl
          · dsimp only
            rw [List.drop_set_of_lt (by omega)]
            have : i + (j + 1) - 1 = (i + j - 1) + 1 := by omega
            rw [this, ← List.drop_drop, hcd, List.drop_drop]
        · refine G.iff ?_
          refine G.jk ?_; intro _
          refine G.add (by omega) ?_
          refine Gs.go (hc2 (c, k, j + 1) ⟨hcl, by dsimp only; omega, by dsimp only; omega, hk1, by dsimp only; omega, ?_, ?_⟩ (by dsimp only; omega)) rfl
          · dsimp only
            rw [← Nat.add_assoc, hst2, hq2, hck]
            simp
          · dsimp only
            have : i + (j + 1) - 1 = (i + j - 1) + 1 := by omega
            rw [this, ← List.drop_drop, hcd, List.drop_drop]
      · have hj' : i + j = l.length := by omega
        have hkl : k < c.length := by omega
        refine Gs.cutAt hkl ?_
        intro v2 hcut2
        refine Gs.clearC hza hkl hcut2 ?_
        refine Gs.cutO (lo := none) (hi := some (k : Int)) (by simp [cutLo]) (by simp [cutHi]; omega) (fun i h => (by cases h)) (fun i h => by cases h; omega) ?_
        intro v3
        have : List.drop (cutLo none) (List.take (cutHi (some (k : Int)) (c.take k ++ List.replicate (c.length - k) a0).length) (c.take k ++ List.replicate (c.length - k) a0)) = compactL eqv l := by
          rw [hj', List.take_length] at hck
          rw [← hck]
          show ((c.take k ++ List.replicate (c.length - k) a0).take (k : Int).toNat).drop 0 = _
          rw [List.drop_zero, Int.toNat_natCast, List.take_append_of_le_length (by rw [List.length_take]; omega), List.take_take, Nat.min_self]
        rw [this]
        exact hk v3
  · have hi' : i = l.length := by omega
    rw [hi', List.take_length] at hR
    rw [hR] at hk
    exact hk v)

/-! ### Clone -/
def sClone (t : TypeId) (P : Program) (arg0 : Value) (K : Value → WP) : WP :=
  Do P (V (EqG .eql t (.tmp 3) (.const (.slice none 0 0)) arg0 (.slice none 0 0))) fun t1_4 =>
  If t1_4 (
   K (.slice none 0 0)
  ) (
   Do P (vBuildSlice t 0 []) fun t2_5 =>
   Do P (vBuiltin .append #[t, t] t [t2_5, arg0]) fun t3_7 =>
   K t3_7
  )
theorem sClone_ok [ht : TSlice P t e sz by_] [hz : TZero P e z] [hzl : LenIs z sz] [he : Enc enc sz] (hr : RdE h v enc sz l) (hb : l.length * sz * by_ ≤ 140737488355328) (h63 : l.length * sz ≤ 9223372036854775807)
    (hk : ∀ v', Gs w0 h0 h (.sl v' e sz (fl enc l) :: L) (K v')) : Gs w0 h0 h L (sClone t P v K) := by
  unfold sClone
  refine Gs.snil hr fun b hb' => ?_
  cases b
  · refine G.iff ?_
    refine Gs.buildSlice (by rw [Nat.zero_mul]; decide) ?_
    intro b
    refine Gs.appendR (enc := enc) (l := []) (m := l) (v := .slice (some ⟨b, 0, none⟩) 0 0) hr (by simpa using hb) (by simpa using h63) ?_
    intro v'
    exact hk v'
  · refine G.ift ?_
    have := hb' rfl
    subst this
    exact Gs.nilsl e sz (hk _)
end

/-! ### BinarySearchFunc -/
def sBs (t e tu : TypeId) (P : Program) (arg0 arg1 arg2 : Value) (K : Value → WP) : WP :=
  Do P (V (Instr.box e arg1)) fun target1 =>
  Do P (vBuiltin .len #[t] 3 [arg0]) fun t2_13 =>
  Lp (α := Value × Value) (fun c3 s3 => Jk fun _ =>
   Do P (V (binOp .lss 3 s3.1 s3.2)) fun t4_17 =>
   If t4_17 (
    Do P (V (binOp .add 3 s3.1 s3.2)) fun t5_20 =>
    Do P (V (convert 3 tu t5_20)) fun t6_21 =>
    Do P (V (binOp .shr tu t6_21 (.int .u64 1))) fun t7_22 =>
    Do P (V (convert tu 3 t7_22)) fun t8_23 =>
    Dr <|
    Qk P (V (Instr.indexAt t arg0 t8_23)) fun C9 t9_27 =>
    Qk P (V (Instr.loadAt e t9_27)) fun C10 t10_28 =>
    Qk P (V (Instr.loadAt e target1)) fun C11 t11_29 =>
    Do P (vCall arg2 [t10_28, t11_29]) fun t12_30 =>
    Qk P (V (binOp .lss 3 t12_30 (.int .i64 0))) fun C13 t13_31 =>
    If t13_31 (
     Do P (V (binOp .add 3 t8_23 (.int .i64 1))) fun t14_33 =>
     c3 (t14_33, s3.2)
    ) (
     c3 (s3.1, t8_23)
    )
   ) (
    Dr <|
    Qk P (V (binOp .lss 3 s3.1 t2_13)) fun C15 t15_38 =>
    Gd t15_38 true (
     Qk P (V (Instr.indexAt t arg0 s3.1)) fun C16 t16_43 =>
     Qk P (V (Instr.loadAt e t16_43)) fun C17 t17_44 =>
     Qk P (V (Instr.loadAt e target1)) fun C18 t18_45 =>
     Do P (vCall arg2 [t17_44, t18_45]) fun t19_46 =>
     Qk P (V (EqG .eql 3 (.tmp 46) (.const (.int .i64 0)) t19_46 (.int .i64 0))) fun C20 t20_47 =>
     K (.tuple #[s3.1, t20_47])
    ) (
     K (.tuple #[s3.1, (.bool false)])
    )
   )
  ) ((.int .i64 0), t2_13)
section
variable {α : Type} {enc : α → List Value} {sz : Nat} {val : α → Value} {v : Value} {l : List α} {t e tu by_ : Nat}
theorem Yd.shrU {S : WP} {t : TypeId} {a : Int} (ha : 0 ≤ a) : Yd P S (V (binOp .shr t (.int .u64 a) (.int .u64 1))) (.int .u64 (a / 2)) := Yd.of fun w => by
  have hm : min (1 : Int).toNat IntKind.u64.bits = 1 := by decide
  simp only [binOp, Op.shift, if_neg (show ¬ (1 : Int) < 0 by decide), hm]
  have : a.fdiv (2 ^ 1) = a / 2 := Int.fdiv_eq_ediv_of_nonneg _ (by decide)
  rw [this]
  rfl
theorem wrapU {a : Int} (h : 0 ≤ a ∧ a ≤ 9223372036854775807) : IntKind.u64.wrap a = a := by simp [IntKind.wrap, IntKind.bits, IntKind.signed]; omega
/-- cf x: what the comparison says of the element x against the target. 'dn': what stands ahead. -/
theorem sBs_ok [ht : TSlice P t e sz by_] [he : Enc enc sz] [hl : LdE P e enc val] [hi64 : TInt P 3 .i64] [hu64 : TInt P tu .u64] {f tv : Value} {cs : List Value} (hcs : Cells tv cs) (hbox : ∀ {K : Value → WP}, (∀ b, Gs w0 h0 h (.blk b cs e :: L) (K (ptr b 0))) → Gs w0 h0 h L (Do P (V (Instr.box e tv)) K))
    (hld : ∀ (L' : List Itm) (b : Nat) (K : WP → Value → WP), Blk L' b cs e → (∀ C, Gs w0 h0 h L' (K C tv)) → Gs w0 h0 h L' (Qk P (V (Instr.loadAt e (ptr b 0))) K))
    (cf : α → Int) (hr : RdE h v enc sz l) (hn : l.length ≤ 4611686018427387904)
    (hf : ∀ (L' : List Itm) (K : Value → WP) x, x ∈ l → Gs w0 h0 h L' (K (I (cf x))) → Gs w0 h0 h L' (Do P (vCall f [val x, tv]) K))
    (hmono : ∀ i j (h1 : i < l.length) (h2 : j < l.length), i ≤ j → cf l[j] < 0 → cf l[i] < 0)
    (hk : ∀ (i : Nat) b, i ≤ l.length → (∀ j (h : j < l.length), (j < i → cf l[j] < 0) ∧ (i ≤ j → ¬ cf l[j] < 0)) → (b = true ↔ ∃ h : i < l.length, cf l[i] = 0) → Gs w0 h0 h L (K (.tuple #[I i, .bool b]))) : Gs w0 h0 h L (sBs t e tu P v tv f K) := by
  unfold sBs
  refine hbox ?_
  intro tb
  refine Gs.lenE hr (by omega) ?_
  refine Gs.lp (β := Nat × Nat) (fun g => (I g.1, I g.2)) (fun _ => h) (fun _ => .blk tb cs e :: L) (fun g => g.1 ≤ g.2 ∧ g.2 ≤ l.length ∧ (∀ j (h : j < l.length), (j < g.1 → cf l[j] < 0) ∧ (g.2 ≤ j → ¬ cf l[j] < 0))) (fun g => g.2 - g.1) (0, l.length) rfl
    ⟨Nat.zero_le _, Nat.le_refl _, fun j h => ⟨fun h' => by dsimp only at h'; omega, fun h' => by dsimp only at h'; omega⟩⟩ (fun _ h => h) ?_
  rintro ⟨i, j⟩ ⟨hij, hjl, hR⟩ cont hc
  dsimp only at *
  refine G.jk ?_; intro _
  refine G.step ?_
  refine G.ifd ?_ ?_ <;> intro hlt
  · refine G.add (by omega) ?_
    refine G.step ?_
    rw [wrapU (by omega)]
    haveI := Yd.shrU (P := P) (S := St w0 h0 h (.blk tb cs e :: L)) (t := tu) (a := (i : Int) + j) (by omega)
    refine G.step ?_
    refine G.step ?_
    rw [wrap_in (by omega)]
    obtain ⟨m, hm, hm1, hm2⟩ : ∃ m : Nat, ((i : Int) + j) / 2 = m ∧ i ≤ m ∧ m < j := ⟨(i + j) / 2, by omega, by omega, by omega⟩
    rw [hm]
    refine Gs.dr ?_
    refine Gs.qindexE hr (show m < l.length by omega) ?_
    intro b o hp
    refine Gs.qloadE hp ?_
    refine hld _ _ _ ⟨by simp⟩ ?_
    intro _
    refine hf _ _ _ (List.getElem_mem _) ?_
    refine G.qkp ?_
    refine G.ifd ?_ ?_ <;> intro hcf
    · refine G.add (by omega) ?_
      refine Gs.go (hc (m + 1, j) ⟨by dsimp only; omega, hjl, fun q hq => ⟨fun h' => ?_, (hR q hq).2⟩⟩ (by dsimp only; omega)) rfl
      dsimp only at h'
      exact hmono q m hq _ (by omega) hcf
    · refine Gs.go (hc (i, m) ⟨by dsimp only; omega, by dsimp only; omega, fun q hq => ⟨(hR q hq).1, fun h' h'' => ?_⟩⟩ (by dsimp only; omega)) rfl
      dsimp only at h'
      exact hcf (hmono m q _ hq h' h'')
  · have e1 : i = j := by omega
    subst e1
    refine Gs.dr ?_
    refine G.qkp ?_
    refine G.gddt ?_ ?_ <;> intro h1
    · have h1' : i < l.length := by omega
      refine Gs.qindexE hr h1' ?_
      intro b o hp
      refine Gs.qloadE hp ?_
      refine hld _ _ _ ⟨by simp⟩ ?_
      intro _
      refine hf _ _ _ (List.getElem_mem _) ?_
      refine G.qkp ?_
      refine G.mono (hk i _ hjl hR ?_) (fun w s => s.sub (List.sublist_cons_self _ _))
      rw [decide_eq_true_iff]
      exact ⟨fun h => ⟨h1', h⟩, fun ⟨_, h⟩ => h⟩
    · refine G.mono (hk i _ hjl hR ?_) (fun w s => s.sub (List.sublist_cons_self _ _))
      constructor
      · intro h; cases h
      · rintro ⟨h, _⟩; omega
end

/-! ### SortFunc -/
@[reducible] def Mode.on : Mode := ⟨True⟩
theorem putV_block {w : World} {b off : Nat} {pre xs post : List Value} {e : TypeId} {zs : Array Value} (hb : w.heap[b]? = some (.cells (pre ++ xs ++ post).toArray e (0, 0))) (hpre : pre.length = off) (hx : xs.length = zs.size) :
    (Sort.putRow id w b off zs).heap[b]? = some (.cells (pre ++ zs.toList ++ post).toArray e (0, 0)) := by
  unfold Sort.putRow Sort.mapBlock
  simp only [Array.getElem?_modify, if_true, hb, Option.map_some, Sort.onCells]
  congr 2
  apply Array.ext_getElem?
  intro j
  unfold Sort.putCells
  rw [Array.getElem?_mapIdx]
  simp only [List.getElem?_toArray, List.size_toArray]
  rw [List.append_assoc, List.append_assoc]
  by_cases h1 : j < off
  · have eL : (pre ++ (xs ++ post))[j]? = pre[j]? := List.getElem?_append_left (by omega)
    have eR : (pre ++ (zs.toList ++ post))[j]? = pre[j]? := List.getElem?_append_left (by omega)
    rw [eL, eR]
    cases hj : pre[j]? with
    | none => rfl
    | some u => simp; omega
  · have eL : (pre ++ (xs ++ post))[j]? = (xs ++ post)[j - off]? := by rw [← hpre]; exact List.getElem?_append_right (by omega)
    have eR : (pre ++ (zs.toList ++ post))[j]? = (zs.toList ++ post)[j - off]? := by rw [← hpre]; exact List.getElem?_append_right (by omega)
    rw [eL, eR]
    have hzl : zs.toList.length = zs.size := Array.length_toList
    by_cases h2 : j - off < zs.size
    · have fL : (xs ++ post)[j - off]? = xs[j - off]? := List.getElem?_append_left (by omega)
      have fR : (zs.toList ++ post)[j - off]? = zs.toList[j - off]? := List.getElem?_append_left (by omega)
      rw [fL, fR, List.getElem?_eq_getElem (show j - off < xs.length by omega)]
      simp only [Option.map_some]
      rw [if_pos (by omega), List.getElem?_eq_getElem (by omega)]
      simp [h2]
    · have fL : (xs ++ post)[j - off]? = post[j - off - zs.size]? := by rw [← hx]; exact List.getElem?_append_right (by omega)
      have fR : (zs.toList ++ post)[j - off]? = post[j - off - zs.size]? := by
        rw [← hzl]; exact List.getElem?_append_right (by omega)
      rw [fL, fR]
      cases hj : post[j - off - zs.size]? with
      | none => rfl
      | some u => simp; omega
theorem putV_other {γ : Type} [Inhabited γ] {en : γ → Value} {w : World} {b off k : Nat} {d : Array γ} (hk : k ≠ b) : (Sort.putRow en w b off d).heap[k]? = w.heap[k]? := by
  unfold Sort.putRow Sort.mapBlock
  simp [Array.getElem?_modify, Ne.symm hk]
theorem holdsV {w : World} {b off : Nat} {pre post : List Value} {e : TypeId} {zs : Array Value} (hb : w.heap[b]? = some (.cells (pre ++ zs.toList ++ post).toArray e (0, 0))) (hpre : pre.length = off) : Sort.Holds id w b off zs := by
  intro j hj
  refine ⟨?_, by simp [World.frozen?, hb]⟩
  have hzl : zs.toList.length = zs.size := Array.length_toList
  rw [cell_of hb, List.append_assoc, List.getElem?_append_right (by omega), List.getElem?_append_left (by omega)]
  have : off + j - pre.length = j := by omega
  rw [this]
  simp [hj]
theorem flatK_fl {γ : Type} [Inhabited γ] {en : γ → List Value} {k : Nat} [he : Enc en k] (hk : k ≠ 0) (d : Array γ) : (Go.Sort.flatK en k d).toList = fl en d.toList := by
  apply List.ext_getElem?
  intro j
  have h1 := Go.Sort.size_flatK en k d
  have h2 : (fl en d.toList).length = d.size * k := by rw [fl_len]; simp
  by_cases hj : j < d.size * k
  · have hi : j / k < d.size := (Nat.div_lt_iff_lt_mul (Nat.pos_of_ne_zero hk)).2 hj
    have hm : j % k < k := Nat.mod_lt _ (Nat.pos_of_ne_zero hk)
    have g1 := Go.Sort.get_flatK en k d j hj
    have hch := fl_chunk (enc := en) d.toList (j / k) (by rw [Array.length_toList]; exact hi)
    have hel := he.len d[j / k]
    have hget : (chunk (fl en d.toList) k (j / k))[j % k]? = some ((en d[j / k])[j % k]'(by omega)) := by rw [hch]; simp [hm, hel]
    have := chunk_get hget
    rw [Nat.div_add_mod' j k] at this
    rw [this, Array.getElem?_toList, Array.getElem?_eq_getElem (by omega)]
    rw [getElem!_pos (Go.Sort.flatK en k d) j (by omega)] at g1
    rw [g1, getElem!_pos d (j / k) hi, getElem!_pos (en d[j / k]) (j % k) (by rw [hel]; exact hm)]
  · rw [Array.getElem?_toList, Array.getElem?_eq_none (by omega), List.getElem?_eq_none (l := fl en d.toList) (by rw [h2]; omega)]
theorem grow_of_below {w w' : World} (hb : Below w.heap.size w w') (hd : w.drawn ≤ w'.drawn) : ∃ q os', w' = Sort.grow (w.drewN q) os' := by
  obtain ⟨heap', tape', drawn', os', output'⟩ := w'
  have e1 : os' = w.os := hb.os
  have e2 : tape' = w.tape := hb.tape
  have e3 : output' = w.output := hb.output
  have hs : w.heap.size ≤ heap'.size := hb.size
  have hbl : ∀ k, k < w.heap.size → heap'[k]? = w.heap[k]? := hb.block
  have hd' : w.drawn ≤ drawn' := hd
  subst e1 e2 e3
  have eh : heap' = w.heap ++ heap'.extract w.heap.size heap'.size := by
    apply Array.ext_getElem?
    intro k
    by_cases hk : k < w.heap.size
    · rw [Array.getElem?_append_left hk]; exact hbl k hk
    · rw [Array.getElem?_append_right (by omega), Array.getElem?_extract]
      by_cases hk2 : k < heap'.size
      · rw [if_pos (by omega)]; congr 1; omega
      · rw [if_neg (by omega), Array.getElem?_eq_none (by omega)]
  refine ⟨drawn' - w.drawn, heap'.extract w.heap.size heap'.size, ?_⟩
  unfold Sort.grow World.drewN
  dsimp only
  congr 1
  omega
theorem putK_hle {γ : Type} [Inhabited γ] {en : γ → List Value} {k : Nat} {w : World} {h : Hp} {blk off m : Nat} {d : Array γ} {os : Array Obj} (hb : h blk = none) (hle : Hle h (World.hp w)) : Hle h (World.hp (Go.Proofs.sortWorldK en k w blk off m d os)) := by
  intro q o e
  have hq : q ≠ blk := fun hh => by subst hh; rw [hb] at e; cases e
  have hlt := Hle.lt hle e
  have := hle q o e
  unfold World.hp at this ⊢
  unfold Go.Proofs.sortWorldK Go.Sort.putRowK Sort.grow
  dsimp only
  rw [Array.getElem?_append_left (by rw [Sort.size_putRow]; exact hlt), putV_other hq]
  exact this
section
variable {α β : Type} {enc : α → List Value} {sz : Nat} {v : Value} {l : List α} {m : List β} {e : TypeId}
/-- The library's sort, in place, at elements of any size. -/
theorem Gs.sortK {f g : FuncId} [IsGo P f] [IsGo P g] [he : Enc enc sz] (rel : α → β → Prop) (cf : β → β → Int) (hO : Sort.SWO (Go.Proofs.ltOf cf)) (hlm : All2 rel l m) [htk : TakeS L v e sz (fl enc l) R] (hn : l.length < 4611686018427387904) (hsz : sz ≠ 0)
    (hnil : ∀ (p : Option Addr) (cap : Nat) (w : World), Calls P f #[.slice p 0 cap, .func (.func g) #[] #[]] w fun e w' => e = .returned (.tuple #[]) ∧ w' = w)
    (hcall : ∀ (γ : Type) [Inhabited γ] (en : γ → List Value) (hk : ∀ x, (en x).length = sz) (h1 : ∀ x, ∀ v ∈ en x, v.oneCell' = true) (cf : γ → γ → Int) (hO : Sort.SWO (Go.Proofs.ltOf cf)) (blk off cap : Nat) (d : Array γ) (w : World) (hcmp : Go.Proofs.CmpLays P g #[] en sz cf blk off d.size w) (hH : Go.Sort.HoldsK en sz w blk off d) (hblk : blk < w.heap.size) (hsz : d.size < 4611686018427387904),
      Calls P f #[.slice (some ⟨blk, off, none⟩) d.size cap, .func (.func g) #[] #[]] w fun e w' => e = .returned (.tuple #[]) ∧ ∃ d' n os, Sort.PermIn 0 d.size d d' ∧ Sort.SortedIn (Go.Proofs.ltOf cf) 0 d.size d' ∧ w' = Go.Proofs.sortWorldK en sz w blk off n d' os)
    (hcmp : ∀ x a y b, rel x a → rel y b → Ct (M := Mode.on) P g [.agg (enc x).toArray, .agg (enc y).toArray] h (fun _ r => r = I (cf a b)))
    (hk : ∀ l' m', m'.Perm m → m'.Pairwise (fun a b => ¬ cf b a < 0) → All2 rel l' m' → Gs w0 h0 h (.sl v e sz (fl enc l') :: R) (K (.tuple #[]))) :
    Gs w0 h0 h L (Do P (vCall (.func (.func f) #[] ⟨[]⟩) [v, .func (.func g) #[] ⟨[]⟩]) K) := Gs.perm htk.perm ⟨fun w s => Do.of (run_vCall _ _ _) (by
  have hok := s.head_sl
  have hfb := (s.items (.sl v e sz (fl enc l)) (by simp)).2
  rw [List.append_nil]
  rcases Nat.eq_zero_or_pos l.length with h0 | hpos
  · have hl0 : l = [] := List.eq_nil_of_length_eq_zero h0
    obtain ⟨a, cap, rfl⟩ := own_len (enc := enc) hsz hok
    rw [h0] at *
    have hm0 : m = [] := List.eq_nil_of_length_eq_zero (by rw [← hlm.len, hl0]; rfl)
    refine Calls.mono (hnil a cap w) fun e' w' he' => ?_
    obtain ⟨rfl, rfl⟩ := he'
    have := hk l m (.refl _) (by rw [hm0]; exact List.Pairwise.nil) hlm
    exact this.run _ s
  rcases hok with ⟨rfl, hx⟩ | ⟨b, off, n, cap, pre, post, rfl, hb, g2, g3, g4, g5⟩
  · have := fl_len (enc := enc) l
    rw [hx] at this
    have := Nat.mul_pos hpos (Nat.pos_of_ne_zero hsz)
    simp at *
    omega
  · have hn' : n = l.length := by
      rw [fl_len] at g3
      exact (Nat.eq_of_mul_eq_mul_right (Nat.pos_of_ne_zero hsz) g3).symm
    subst hn'
    have hml : m.length = l.length := hlm.len.symm
    haveI : Inhabited (Fin l.length) := ⟨⟨0, hpos⟩⟩
    let en : Fin l.length → List Value := fun i => enc l[i]
    haveI hen : Enc en sz := ⟨fun i => he.len _, fun i => he.flat _⟩
    let d : Array (Fin l.length) := Array.ofFn id
    have hds : d.size = l.length := Array.size_ofFn
    have hmap : d.toList.map (fun i => l[i]) = l := by
      apply List.ext_getElem
      · simp [d]
      · intro i h1 h2
        simp [d]
    have hfl : ∀ ds : List (Fin l.length), fl en ds = fl enc (ds.map fun i => l[i]) := by
      intro ds
      induction ds with
      | nil => rfl
      | cons a r ih => rw [fl_cons, List.map_cons, fl_cons, ih]
    have hflat : (Go.Sort.flatK en sz d).toList = fl enc l := by rw [flatK_fl hsz, hfl, hmap]
    have hbl := (hfb b rfl).2
    have hbs : b < w.heap.size := s.lt (it := .sl (.slice (some ⟨b, off, none⟩) l.length cap) e sz (fl enc l)) (by simp) rfl
    have hb' : w.heap[b]? = some (.cells (pre ++ fl enc l ++ post).toArray e (0, 0)) := hb
    let cfF : Fin l.length → Fin l.length → Int := fun i j => cf (m[i.val]'(by omega)) (m[j.val]'(by omega))
    have hlt : ∀ i j, Go.Proofs.ltOf cfF i j = Go.Proofs.ltOf cf (m[i.val]'(by omega)) (m[j.val]'(by omega)) := fun i j => rfl
    have hOF : Sort.SWO (Go.Proofs.ltOf cfF) := ⟨fun x => by rw [hlt]; exact hO.irrefl _, fun x y z h1 h2 => by rw [hlt] at *; exact hO.trans _ _ _ h1 h2, fun x y z h1 h2 => by rw [hlt] at *; exact hO.ntrans _ _ _ h1 h2⟩
    have hlays : Go.Proofs.CmpLays P g #[] en sz cfF b off d.size w := fun q os dk hdk x y => by
      have hc := hcmp l[x] (m[x.val]'(by omega)) l[y] (m[y.val]'(by omega)) (hlm.get x.val x.isLt (by omega)) (hlm.get y.val y.isLt (by omega)) _ (putK_hle (en := en) (k := sz) (off := off) (m := q) (d := dk) (os := os) hbl s.frozen)
      refine Calls.mono hc fun e' w' he' => ?_
      cases e' with
      | panicked c => exact he'.elim
      | outgrown => exact he'.elim
      | returned r =>
        obtain ⟨k1, ⟨h', k2, k3, k4, k5⟩, k6⟩ := he'
        exact ⟨by rw [k5], grow_of_below k1 (k6 trivial)⟩
    have hold : Go.Sort.HoldsK en sz w b off d := holdsV (pre := pre) (post := post) (e := e) (by rw [hflat]; exact hb') g2
    have hc := hcall (Fin l.length) en hen.len (fun x v hv => oneCell_of_flat (he.flat _ v hv)) cfF hOF b off cap d w hlays hold hbs (by omega)
    rw [hds] at hc
    refine Calls.mono hc fun e' w' he' => ?_
    obtain ⟨rfl, d', q, os, hp, hso, rfl⟩ := he'
    obtain ⟨hp1, _, hp3⟩ := hp
    have hds' : d'.size = l.length := by rw [hp1, hds]
    have hperm : d'.toList.Perm d.toList := by
      have hx : ∀ (n : Nat) (d : Array (Fin l.length)), d.size = n → (d.extract 0 n).toList = d.toList := by intro n d h; subst h; simp
      have e1 := hx _ _ hds'
      have e2 := hx _ _ hds
      rwa [e1, e2] at hp3
    have hmapm : d.toList.map (fun i => m[i.val]'(by omega)) = m := by
      apply List.ext_getElem
      · simp [d, hml]
      · intro i h1 h2
        simp [d]
    have hpm : (d'.toList.map fun i => m[i.val]'(by omega)).Perm m := by
      have := hperm.map (fun i : Fin l.length => m[i.val]'(by omega))
      rwa [hmapm] at this
    have hpw : (d'.toList.map fun i => m[i.val]'(by omega)).Pairwise (fun a b => ¬ cf b a < 0) := by
      rw [List.pairwise_map, List.pairwise_iff_getElem]
      intro i j h1 h2 hij
      rw [Array.length_toList] at h1 h2
      have := hso i j (Nat.zero_le _) hij (by omega)
      rw [getElem!_pos d' i h1, getElem!_pos d' j h2, hlt] at this
      unfold Go.Proofs.ltOf at this
      simpa using this
    have hal : All2 rel (d'.toList.map fun i => l[i]) (d'.toList.map fun i => m[i.val]'(by omega)) := All2.of (by simp) fun i h1 h2 => by
      simp only [List.getElem_map]
      exact hlm.get _ _ _
    refine (hk _ _ hpm hpw hal).run _ (St.growN ?_ os)
    refine (s.ahead q).write (it' := .sl _ e sz _) (b := b) rfl rfl rfl rfl rfl (Sort.size_putRow _ _ _ _ _) (fun k hk => putV_other hk) (.inr ⟨b, off, l.length, cap, pre, post, rfl, ?_, g2, by rw [fl_len, List.length_map, Array.length_toList, hds'], g4, g5⟩)
    have hfl' : (Go.Sort.flatK en sz d').toList = fl enc (d'.toList.map fun i => l[i]) := by rw [flatK_fl hsz, hfl]
    show (Sort.putRow id (Sort.ahead w q) b off (Go.Sort.flatK en sz d')).heap[b]? = _
    rw [putV_block (w := Sort.ahead w q) (xs := fl enc l) hb' g2 (by rw [Go.Sort.size_flatK, fl_len, hds']), hfl'])⟩
end
end Go.Sk
end

section
/-
  The walk: pointers held against one another, unsafe strings; what a builder's code needs.
-/
set_option linter.unusedVariables false
set_option linter.unusedSimpArgs false
namespace Go.Sk
open Go Go.RowKit
variable {M : Mode} {P : Program} {w0 : World} {h0 h : Hp} {L R : List Itm} {K : Value → WP} {S : WP}
instance Yd.nilc {b o : Nat} : Yd P S (vNil (ptr b o)) (ptr b o) := ⟨fun w _ => rfl⟩
def ptrB (P : Program) (t te sz : Nat) : Bool := match P.underlying t, P.info? te with
  | some (.pointer te'), some i => Nat.beq te te' && Nat.beq i.size sz && !Nat.beq sz 0
  | _, _ => false
class TPtr (P : Program) (t : TypeId) (te sz : outParam Nat) : Prop where
  ok : ptrB P t te sz = true
theorem TPtr.spec {t te sz : Nat} (h : TPtr P t te sz) : ∃ i, P.underlying t = some (.pointer te) ∧ P.info? te = some i ∧ i.size = sz ∧ sz ≠ 0 := by
  have h := h.ok
  unfold ptrB at h
  cases hu : P.underlying t with
  | none => rw [hu] at h; cases h
  | some d =>
    rw [hu] at h
    cases d <;> try (cases h; done)
    rename_i te'
    cases hi : P.info? te with
    | none => rw [hi] at h; cases h
    | some i =>
      rw [hi] at h
      simp only [Bool.and_eq_true, Bool.not_eq_true'] at h
      obtain ⟨⟨h1, h2⟩, h3⟩ := h
      have e1 := Nat.eq_of_beq_eq_true h1
      subst e1
      exact ⟨i, rfl, rfl, Nat.eq_of_beq_eq_true h2, fun e => by subst e; cases h3⟩
instance Yd.pnil {t te sz : Nat} {x : Operand} [ht : TPtr P t te sz] : Yd P S (V (EqG .eql t x (.const (.pointer none)) (.pointer none) (.pointer none))) (.bool true) := Yd.of fun w => by
  obtain ⟨i, u1, u2, u3, u4⟩ := ht.spec
  have h : ∀ d : Nat, (Op.equalIn (d + 1) t (.pointer none) (.pointer none)).run P w = .ok true w := fun d => by simp [Op.equalIn, run_underlying u1]
  simp [EqG, eqGuard, binOp, Op.equal, Op.maxDepth, h 9999]
instance Yd.psome {t te sz b o : Nat} {x : Operand} [ht : TPtr P t te sz] : Yd P S (V (EqG .eql t x (.const (.pointer none)) (ptr b o) (.pointer none))) (.bool false) := Yd.of fun w => by
  obtain ⟨i, u1, u2, u3, u4⟩ := ht.spec
  have h : ∀ d : Nat, (Op.equalIn (d + 1) t (ptr b o) (.pointer none)).run P w = .ok false w := fun d => by simp [Op.equalIn, run_underlying u1]
  simp [EqG, eqGuard, binOp, Op.equal, Op.maxDepth, h 9999]
instance Yd.pneq {t te sz b o : Nat} {x y : Operand} [ht : TPtr P t te sz] : Yd P S (V (EqG .neq t x y (ptr b o) (ptr b o))) (.bool false) := Yd.of fun w => by
  obtain ⟨i, u1, u2, u3, u4⟩ := ht.spec
  have := Lib.run_neq_ptr_same (P := P) w ⟨b, o, none⟩ u1 u2
  have hg : (eqGuard .neq t x y (ptr b o) (ptr b o)).run P w = .ok () w := by rfl
  unfold EqG
  show (Sem.bind (eqGuard .neq t x y (ptr b o) (ptr b o)) _).run P w = _
  rw [show (Sem.bind (eqGuard .neq t x y (ptr b o) (ptr b o)) fun _ => binOp .neq t (ptr b o) (ptr b o)) = (eqGuard .neq t x y (ptr b o) (ptr b o) >>= fun _ => binOp .neq t (ptr b o) (ptr b o)) from rfl, Sem.run_bind, hg]
  exact this
theorem shape_blk {w : World} {b : Nat} {cs : List Value} {e : TypeId} (hb : w.heap[b]? = some (.cells cs.toArray e (0, 0))) : w.shape? b = some (e, cs.length) := by
  simp [World.shape?, hb]
/-- *T to unsafe.Pointer and back, at the head of a block of that type. -/
theorem Gs.toU {s d te sz b : Nat} {cs : List Value} [ht : TPtr P s te sz] (hd : P.underlying d = some .unsafePointer) [hb : Blk L b cs te] (hl : cs.length = sz) (hk : Gs w0 h0 h L (K (ptr b 0))) : Gs w0 h0 h L (Do P (V (convert s d (ptr b 0))) K) := ⟨fun w st => by
  obtain ⟨i, u1, u2, u3, u4⟩ := ht.spec
  exact Do.of (V_run (Lib.run_to_unsafe w ⟨b, 0, none⟩ u1 hd u2 (by omega) (shape_blk (st.blk hb.mem)) (by show (0 : Nat) < _; omega))) (hk.run w st)⟩
theorem Gs.ofU {s d te sz b : Nat} {cs : List Value} [ht : TPtr P d te sz] (hs : P.underlying s = some .unsafePointer) [hb : Blk L b cs te] (hl : liesAt P P.depth te (cs.length / P.cellsOf te) 0 te 1 = true) (hk : Gs w0 h0 h L (K (ptr b 0))) : Gs w0 h0 h L (Do P (V (convert s d (ptr b 0))) K) := ⟨fun w st => by
  obtain ⟨i, u1, u2, u3, u4⟩ := ht.spec
  exact Do.of (V_run (Lib.run_from_unsafe w ⟨b, 0, none⟩ hs u1 u2 (shape_blk (st.blk hb.mem)) hl)) (hk.run w st)⟩
/-- Strings as what is appended. -/
theorem fl_eByte (s : List UInt8) : fl eByte s = s.map fun b => Value.int .u8 b.toNat := by
  induction s with
  | nil => rfl
  | cons a r ih => rw [fl_cons, ih]; rfl
theorem SrcG.str {tx : TypeId} {s : List UInt8} [ht : TStr P tx] : SrcG P S 1 tx (Str s) (fl eByte s) := ⟨fun w _ => ⟨s.length, by
  have := Src.ofString (P := P) w (tx := tx) ht.spec ⟨s.toArray⟩
  rw [fl_eByte]
  exact this⟩⟩
/-- An owned block that the walk lets go. -/
theorem St.scrap {w w' : World} {it : Itm} {b : Nat} (s : St w0 h0 h (it :: R) w) (hf : it.fp = some b) (hos : w'.os = w.os) (htape : w'.tape = w.tape) (hout : w'.output = w.output) (hdr : w'.drawn = w.drawn) (hsize : w'.heap.size = w.heap.size) (hb : ∀ k, k ≠ b → w'.heap[k]? = w.heap[k]?) : St w0 h0 h R w' := by
  have hi := (s.items it (by simp)).2 b hf
  have ha := List.pairwise_cons.1 s.apart
  refine ⟨⟨hos.trans s.below.os, htape.trans s.below.tape, hout.trans s.below.output, by have := s.below.size; omega, fun k hk => (hb k (by omega)).trans (s.below.block k hk)⟩, s.up, s.old, fun k o e => ?_, ?_, ha.2, fun d => by rw [hdr]; exact s.drawn d⟩
  · have : k ≠ b := fun e' => by subst e'; rw [hi.2] at e; cases e
    exact (hb k this).trans (s.frozen k o e)
  · intro x hx
    have hxo := s.items x (by simp [hx])
    refine ⟨Itm.ok_congr hxo.1 fun c hc => hb c fun e => ?_, hxo.2⟩
    subst e
    exact ha.1 x hx c hf hc
/-- The head of a slice's bytes. -/
def UPt (v p : Value) : Prop := (v = .slice none 0 0 ∧ p = .pointer none) ∨ ∃ b n c, v = .slice (some ⟨b, 0, none⟩) n c ∧ p = ptr b 0
theorem G.usd {t tp : TypeId} {v : Value} (hv : Hd0 v) (hk : ∀ p, UPt v p → G S (K p)) : G S (Do P (vBuiltin .unsafeSliceData #[t] tp [v]) K) := by
  rcases hv with rfl | ⟨b, n, c, rfl, hc⟩
  · haveI : Yd P S (vBuiltin .unsafeSliceData #[t] tp [.slice none 0 0]) (.pointer none) := ⟨fun w _ => run_vB (s := Builtin.unsafeSliceData_ #[t] tp #[.slice none 0 0]) rfl (Lib.run_unsafeSliceData_nil (P := P) (w := w) #[t] tp 0 0)⟩
    exact G.step (hk _ (.inl ⟨rfl, rfl⟩))
  · haveI : Yd P S (vBuiltin .unsafeSliceData #[t] tp [.slice (some ⟨b, 0, none⟩) n c]) (ptr b 0) := ⟨fun w _ => run_vB (s := Builtin.unsafeSliceData_ #[t] tp #[.slice (some ⟨b, 0, none⟩) n c]) rfl (Lib.run_unsafeSliceData_row (P := P) (w := w) #[t] tp ⟨b, 0, none⟩ n c hc)⟩
    exact G.step (hk _ (.inr ⟨b, n, c, rfl, rfl⟩))
/-- The bytes of a builder's buffer, as a string: the buffer is gone. -/
theorem Gs.ustr {tp it ty e : TypeId} {v p : Value} {l : List UInt8} (hu : UPt v p) (hp : P.underlying tp = some (.pointer e)) (hc : P.cellsOf e = 1) [htk : TakeS L v e 1 (fl eByte l) R] (hl : l.length ≤ 9223372036854775807)
    (hk : Gs w0 h0 h R (K (Str l))) : Gs w0 h0 h L (Do P (vBuiltin .unsafeString #[tp, it] ty [p, I l.length]) K) := Gs.perm htk.perm ⟨fun w s => by
  have hok := s.head_sl
  by_cases hl0 : l = []
  · subst hl0
    have hr : ∀ q, (vBuiltin .unsafeString #[tp, it] ty [.pointer q, I (([] : List UInt8).length : Nat)]).run P w = .ok (.value (Str [])) w := fun q => run_vB' rfl (Lib.run_unsafeString_none (P := P) (w := w) tp it ty q)
    have hk' := hk.run w (s.sub (List.sublist_cons_self _ _))
    rcases hu with ⟨rfl, rfl⟩ | ⟨b, n, c, rfl, rfl⟩
    · exact Do.of (hr _) hk'
    · exact Do.of (hr _) hk'
  · rcases hok with ⟨rfl, hx⟩ | ⟨b, off, n, cap, pre, post, rfl, hb, h2, h3, h4, h5⟩
    · rw [fl_eByte] at hx
      exact absurd (by simpa using hx) hl0
    · rcases hu with ⟨hu, _⟩ | ⟨b', n', c', hv, rfl⟩
      · cases hu
      · cases hv
        have hpre : pre = [] := List.eq_nil_of_length_eq_zero h2
        subst hpre
        have hb' : w.heap[b]? = some (.cells (fl eByte l ++ post).toArray e (0, 0)) := by have := hb; unfold World.hp at this; simpa using this
        have hsh := shape_blk hb'
        have hr := Lib.run_unsafeString_row (P := P) (w := w) tp it ty e hp hc b _ hsh l hl0 (by rw [List.length_append, fl_len]; omega) hl (fun j x hx => by
          rw [add_addr, cell_of hb', Nat.zero_add, List.getElem?_append_left (by rw [fl_len]; have := (List.getElem?_eq_some_iff.1 hx).1; omega), fl_eByte, List.getElem?_map, hx]
          rfl)
        refine Do.of (run_vB' rfl hr) (hk.run _ (St.scrap (b := b) s rfl ?_ ?_ ?_ ?_ ?_ ?_))
        all_goals unfold World.freeze; split
        all_goals first | rfl | skip
        · simp
        · exact fun k _ => rfl
        · intro k hk
          simp only [Array.getElem?_modify]
          rw [if_neg (by omega)]⟩

/-! ### Small slices -/
instance App.self {l : List Value} : App l [] l := ⟨List.append_nil _⟩
section
variable {α : Type} {enc : α → List Value} {sz : Nat} {v : Value} {l : List α} {t e by_ ty : Nat} {z : List Value}
/-- One element more. -/
theorem Gs.push [ht : TSlice P t e sz by_] [hz : TZero P e z] [hzl : LenIs z sz] [he : Enc enc sz] [htk : TakeS L v e sz (fl enc l) R] {u : Value} {a : α} [hc : Cells u (enc a)] (hs : sz ≤ 16777216) (hsz : sz ≠ 0) (hb : (l.length + 1) * sz * by_ ≤ 140737488355328) (h63 : (l.length + 1) * sz ≤ 9223372036854775807) {K : Value → Value → WP}
    (hk : ∀ s v', Gs w0 h0 h (.sl v' e sz (fl enc (l ++ [a])) :: R) (K s v')) : Gs w0 h0 h L (Do P (vBuildSlice t 1 [(0, u)]) fun s => Do P (vBuiltin .append #[t, t] ty [v, s]) (K s)) := by
  haveI : LenIs (enc a) sz := ⟨he.len a⟩
  refine Gs.buildSlice (out := enc a) (by omega) ?_
  intro b
  have hfl : fl enc [a] = enc a := by simp [fl]
  refine Gs.perm ((htk.perm.cons _).trans (.swap _ _ _)) ?_
  refine Gs.appendO (enc := enc) (l := l) (m := [a]) (e2 := e) (R := .sl (.slice (some ⟨b, 0, none⟩) 1 1) e sz (enc a) :: R) (by rw [hfl]; simp) (by simpa using hb) (by simpa using h63) ?_
  intro v'
  exact G.mono (hk _ v') (fun w s => s.sub (by simp))
theorem Gs.appendZ [ht : TSlice P t e sz by_] [hz : TZero P e z] [he : Enc enc sz] {tn : TypeId} {kn k : IntKind} [hi : TInt P tn kn] {a0 : α} (hza : enc a0 = z) {n : Nat} (h0n : 0 < n) (h63 : n ≤ 9223372036854775807) (h48 : n * by_ ≤ 281474976710656)
    (hk : ∀ v', Gs w0 h0 h (.sl v' e sz (fl enc (List.replicate n a0)) :: L) (K v')) : Gs w0 h0 h L (Do P (vBuiltin .append #[t, tn] ty [.slice none 0 0, .int k n]) K) := ⟨fun w s => by
  obtain ⟨i, u1, u2, u3, u4, u5⟩ := ht.spec
  obtain ⟨i', zv, q1, q2, q3⟩ := hz.spec
  rw [u2] at q1
  cases q1
  have hg := Lib.run_append_nil_zeros (P := P) w t tn ty e i zv k kn u1 hi.spec u2 q2 n h0n (by omega) (by omega) (by rw [u4]; exact h48)
  have hge := grownCap_ge w n 0 e
  have hzz : ∀ m, (Builtin.zeroCells zv.cells m).toList = fl enc (List.replicate m a0) := fun m => by rw [q3, ← hza]; exact zeroCells_fl u5 a0 m
  refine Do.of (run_vB' rfl hg) ((hk _).run _ (s.drew.alloc _ (.sl _ e sz _) (fun hp' hb' => .inr ⟨w.drew.heap.size, 0, n, _, [], fl enc (List.replicate (grownCap w n 0 e - n) a0), rfl, ?_, rfl, ?_, hge, ?_⟩) rfl))
  · rw [hb']
    congr 2
    apply Array.ext'
    rw [Array.toList_append, hzz, hzz]
    simp
  · rw [fl_len, List.length_replicate]
  · rw [fl_len, List.length_replicate, ← Nat.add_mul]
    exact Nat.mul_le_mul_right _ (by omega)⟩
instance Yd.capnil [ht : TSlice P t e sz by_] : Yd P S (vBuiltin .cap #[t] ty [.slice none 0 0]) (I 0) := ⟨fun w _ => by
  obtain ⟨i, u1, _⟩ := ht.spec
  refine run_vB (s := Builtin.cap_ #[t] ty #[.slice none 0 0]) rfl ?_
  simp [Builtin.cap_, run_underlying u1, goInt]⟩
instance Yd.lennil [ht : TSlice P t e sz by_] : Yd P S (vBuiltin .len #[t] ty [.slice none 0 0]) (I 0) := ⟨fun w _ => run_len w⟩
instance Yd.cutnil [ht : TSlice P t e sz by_] : Yd P S (V (Instr.sliceAt t (.slice none 0 0) none (some (I 0)) none)) (.slice none 0 0) := ⟨fun w _ => by
  have := run_cut (P := P) (t := t) (e := e) (sz := sz) (by_ := by_) (a := none) (n := 0) (cap := 0) (lo := none) (hi := some 0) (Nat.le_refl _) (by simp [cutLo]) (by simp [cutHi]) (fun i h => by cases h) (fun i h => by cases h; decide) w
  exact this⟩
end
/-- The bytes of an own slice that is not empty, as a string. -/
theorem Gs.sbytesE {s d e e' sz by_ : Nat} {v : Value} {l : List UInt8} [ht : TSlice P s e sz by_] [he : TInt P e .u8] [hd : TStr P d] [hs : Sl L v e' 1 (fl eByte l)] (hne : l ≠ [])
    (hk : Gs w0 h0 h L (K (Str l))) : Gs w0 h0 h L (Do P (V (convert s d v)) K) := ⟨fun w st => by
  have hpos : 0 < l.length := List.length_pos_iff.2 hne
  obtain ⟨b, off, cap, rfl, _⟩ := own_at (enc := eByte) (l := l) (i := 0) hpos (by decide) (st.sl hs.mem)
  exact (Gs.sbytes (e' := e') (xs := fl eByte l) (l := l) (K := K) (fl_eByte l) hk).run w st⟩
def byt (n : Int) : UInt8 := UInt8.ofNat (n % 256).toNat
theorem wrap_byt (n : Int) : IntKind.u8.wrap n = ((byt n).toNat : Int) := by
  unfold byt
  have h1 : IntKind.u8.wrap n = n % 256 := by simp [IntKind.wrap, IntKind.bits, IntKind.signed]
  rw [h1, UInt8.toNat_ofNat']
  omega
end Go.Sk
end

section
/-
  The walk: arrays built, bytes' remainders, bytes of strings, taken first.
-/
set_option linter.unusedVariables false
namespace Go.Sk
open Go Go.RowKit
theorem Yd.rem8 {P : Program} {S : WP} {t : TypeId} {a b : Int} (ha : 0 ≤ a) (hb : b ≠ 0) : Yd P S (V (binOp .rem t (.int .u8 a) (.int .u8 b))) (.int .u8 (a % b)) := Yd.of fun w => by
  simp only [binOp, ne_eq, not_true, if_false, Op.intDiv, if_neg hb, Int.tmod_eq_emod_of_nonneg ha]
  rfl
theorem G.rem8 {P : Program} {S : WP} {K : Value → WP} {t : TypeId} {a b : Int} (ha : 0 ≤ a) (hb : b ≠ 0) (hk : G S (K (.int .u8 (a % b)))) : G S (Do P (V (binOp .rem t (.int .u8 a) (.int .u8 b))) K) :=
  haveI := Yd.rem8 (P := P) (S := S) (t := t) ha hb
  G.step hk
theorem G.qrem8 {P : Program} {S : WP} {K : WP → Value → WP} {t : TypeId} {a b : Int} (ha : 0 ≤ a) (hb : b ≠ 0) (hk : G S (K TrueC (.int .u8 (a % b)))) : G S (Qk P (V (binOp .rem t (.int .u8 a) (.int .u8 b))) K) :=
  haveI := Yd.rem8 (P := P) (S := TrueC) (t := t) ha hb
  G.qkp hk
theorem G.qconv {P : Program} {S : WP} {K : WP → Value → WP} {s d : TypeId} {k' : IntKind} {n : Int} [h1 : TInt P s k'] [h : TInt P d .i64] (hr : -9223372036854775808 ≤ n ∧ n ≤ 9223372036854775807) (hk : G S (K TrueC (I n))) : G S (Qk P (V (convert s d (.int k' n))) K) :=
  G.qkp (v := .int .i64 (IntKind.i64.wrap n)) (by rw [wrap_in hr]; exact hk)
theorem Yd.buildA {P : Program} {S : WP} {t n e sz : Nat} {z out : List Value} {parts : List (Nat × Value)} [ht : TArr P t n e sz] [hz : TZero P t z] [hp : Parts 0 parts sz out] (hl : z.length = parts.length * sz) : Yd P S (vBuild t parts) (.agg out.toArray) := ⟨fun w _ => by
  obtain ⟨i', zv, h6, h7, h8⟩ := hz.spec
  have h := ht.ok
  unfold arrB at h
  cases hu : P.underlying t with
  | none => rw [hu] at h; cases h
  | some d =>
    rw [hu] at h
    cases d <;> try (cases h; done)
    rename_i n' e'
    cases hi' : P.info? e with
    | none => rw [hi'] at h; cases h
    | some inf =>
      rw [hi'] at h
      simp only [Bool.and_eq_true] at h
      obtain ⟨⟨g1, g2⟩, g3⟩ := h
      have g2 := Nat.eq_of_beq_eq_true g2
      have g3 := Nat.eq_of_beq_eq_true g3
      subst g2
      unfold vBuild
      refine V_run ?_
      unfold Instr.build
      simp only [Sem.run_bind, run_zeroValue h6 h7, Result.andThen_ok, runU hu, h8, Go.Sk.run_sizeOf hi', g3]
      have := hp.ok [] z (by simp) hl
      simp only [List.nil_append] at this
      rw [this]
      rfl⟩
theorem G.qbuildA {P : Program} {S : WP} {K : WP → Value → WP} {t n e sz : Nat} {z out : List Value} {parts : List (Nat × Value)} [ht : TArr P t n e sz] [hz : TZero P t z] [hp : Parts 0 parts sz out] (hl : z.length = parts.length * sz) (hk : G S (K TrueC (.agg out.toArray))) : G S (Qk P (vBuild t parts) K) :=
  haveI := Yd.buildA (P := P) (S := TrueC) (t := t) hl
  G.qkp hk
theorem G.qsindex {P : Program} {S : WP} {K : WP → Value → WP} {t : TypeId} {k : IntKind} {l : List UInt8} {i : Int} [ht : TStr P t] (hi : 0 ≤ i) (hl : i.toNat < l.length) (hk : G S (K TrueC (.int .u8 (l[i.toNat]).toNat))) : G S (Qk P (V (Instr.index t (Str l) (.int k i))) K) :=
  haveI : Yd P TrueC (V (Instr.index t (Str l) (.int k i))) (.int .u8 (l[i.toNat]).toNat) := Yd.of fun w => by
    rw [run_index_string w t _ k i ht.spec, dif_pos ⟨hi, by show i < ((⟨l.toArray⟩ : ByteArray).size : Int); simp [ByteArray.size]; omega⟩]
    rfl
  G.qkp hk
theorem G.sindexN {P : Program} {S : WP} {K : Value → WP} {t : TypeId} {k : IntKind} {l : List UInt8} {i : Nat} [ht : TStr P t] (hl : i < l.length) (hk : G S (K (.int .u8 (l[i]).toNat))) : G S (Do P (V (Instr.index t (Str l) (.int k i))) K) :=
  G.sindex (i := (i : Int)) (by omega) (by rw [Int.toNat_natCast]; exact hl) (by simpa using hk)
theorem G.qsindexN {P : Program} {S : WP} {K : WP → Value → WP} {t : TypeId} {k : IntKind} {l : List UInt8} {i : Nat} [ht : TStr P t] (hl : i < l.length) (hk : G S (K TrueC (.int .u8 (l[i]).toNat))) : G S (Qk P (V (Instr.index t (Str l) (.int k i))) K) :=
  G.qsindex (i := (i : Int)) (by omega) (by rw [Int.toNat_natCast]; exact hl) (by simpa using hk)
/-- An owned slice is a slice. -/
theorem Gs.slH {M : Mode} {w0 : World} {h0 h : Hp} {L : List Itm} {v : Value} {e sz : Nat} {xs : List Value} {X : WP} [hs : Sl L v e sz xs] (hk : ∀ q : SlH, v = slv q → Gs w0 h0 h L X) : Gs w0 h0 h L X := ⟨fun w s => by
  rcases s.sl hs.mem with ⟨hv, _⟩ | ⟨b, off, n, cap, pre, post, hv, _⟩
  · exact (hk (none, 0, 0) hv).run w s
  · exact (hk (some ⟨b, off, none⟩, n, cap) hv).run w s⟩
theorem wrap8 {a : Int} (h : 0 ≤ a ∧ a ≤ 255) : IntKind.u8.wrap a = a := by simp [IntKind.wrap, IntKind.bits, IntKind.signed]; omega
theorem G.sub8 {P : Program} {S : WP} {K : Value → WP} {t : TypeId} {a b : Int} (h : 0 ≤ a - b ∧ a - b ≤ 255) (hk : G S (K (.int .u8 (a - b)))) : G S (Do P (V (binOp .sub t (.int .u8 a) (.int .u8 b))) K) :=
  G.step (v := .int .u8 (IntKind.u8.wrap (a - b))) (by rw [wrap8 h]; exact hk)
end Go.Sk
end

section
/-
  The walk: places of arrays by a variable, elements of own slices written behind a question.
-/
set_option linter.unusedVariables false
namespace Go.Sk
open Go Go.RowKit
variable {M : Mode} {P : Program} {w0 : World} {h0 h : Hp} {L R : List Itm} {K : Value → WP} {KQ : WP → Value → WP} {S : WP}
theorem tdiv2 (n : Nat) : (n : Int).tdiv 2 = ((n / 2 : Nat) : Int) := by
  rw [Int.tdiv_eq_ediv_of_nonneg (by omega)]
  omega
theorem G.ixN {t n e sz b o : Nat} {k : IntKind} {i : Nat} [ht : TArr P t n e sz] (hi : i < n) (hk : G S (K (ptr b (o + i * sz)))) : G S (Do P (V (Instr.indexAt t (ptr b o) (.int k i))) K) :=
  haveI := Yd.ixA (P := P) (S := S) (t := t) (o := o) (b := b) (k := k) (i := (i : Int)) (c := o + i * sz) ⟨by omega, by omega⟩ (by rw [Int.toNat_natCast])
  G.step hk
theorem G.qixN {t n e sz b o : Nat} {k : IntKind} {i : Nat} [ht : TArr P t n e sz] (hi : i < n) (hk : G S (KQ TrueC (ptr b (o + i * sz)))) : G S (Qk P (V (Instr.indexAt t (ptr b o) (.int k i))) KQ) :=
  haveI := Yd.ixA (P := P) (S := TrueC) (t := t) (o := o) (b := b) (k := k) (i := (i : Int)) (c := o + i * sz) ⟨by omega, by omega⟩ (by rw [Int.toNat_natCast])
  G.qkp hk
theorem Gs.ldN {t b o : Nat} {cs : List Value} {e : TypeId} {v : Value} [TOne P t] [hb : Blk L b cs e] (hv : cs[o]? = some v) (hk : Gs w0 h0 h L (K v)) : Gs w0 h0 h L (Do P (V (Instr.loadAt t (ptr b o))) K) :=
  haveI : Nth cs o v := ⟨hv⟩
  G.step hk
theorem Gs.qldN {t b o : Nat} {cs : List Value} {e : TypeId} {v : Value} [TOne P t] [hb : Blk L b cs e] (hv : cs[o]? = some v) (hk : Gs w0 h0 h L (KQ (BlkC b cs e) v)) : Gs w0 h0 h L (Qk P (V (Instr.loadAt t (ptr b o))) KQ) :=
  haveI : Nth cs o v := ⟨hv⟩
  Gs.qkb hk
theorem G.qrem {t : TypeId} {a b : Int} (hb : b ≠ 0) (hk : G S (KQ TrueC (I (a.tmod b)))) : G S (Qk P (V (binOp .rem t (I a) (I b))) KQ) :=
  haveI := Yd.rem (P := P) (S := TrueC) (t := t) (k := .i64) (a := a) hb
  G.qkp hk
theorem G.qquo {t : TypeId} {a b : Int} (hb : 0 < b) (ha : -9223372036854775808 ≤ a ∧ a ≤ 9223372036854775807) (hk : G S (KQ TrueC (I (a.tdiv b)))) : G S (Qk P (V (binOp .quo t (I a) (I b))) KQ) :=
  haveI := Yd.quo (P := P) (S := TrueC) (t := t) hb ha
  G.qkp hk
theorem G.qremN {t : TypeId} {a b : Int} (ha : 0 ≤ a) (hb : 0 < b) (hk : G S (KQ TrueC (I (a % b)))) : G S (Qk P (V (binOp .rem t (I a) (I b))) KQ) :=
  G.qrem (by omega) (by rw [Int.tmod_eq_emod_of_nonneg ha]; exact hk)
theorem G.qquoN {t : TypeId} {a b : Int} (hb : 0 < b) (ha : 0 ≤ a ∧ a ≤ 9223372036854775807) (hk : G S (KQ TrueC (I (a / b)))) : G S (Qk P (V (binOp .quo t (I a) (I b))) KQ) :=
  G.qquo hb (by omega) (by rw [Int.tdiv_eq_ediv_of_nonneg ha.1]; exact hk)
theorem Yd.quo8 {t : TypeId} {a b : Int} (ha : 0 ≤ a ∧ a ≤ 255) (hb : 0 < b) : Yd P S (V (binOp .quo t (.int .u8 a) (.int .u8 b))) (.int .u8 (a / b)) := Yd.of fun w => by
  have h1 := Int.ediv_nonneg ha.1 (Int.le_of_lt hb)
  have h2 := Int.ediv_le_self b ha.1
  simp only [binOp, ne_eq, not_true, if_false, Op.intDiv, if_neg (show ¬ b = 0 by omega), Int.tdiv_eq_ediv_of_nonneg ha.1, wrap8 (a := a / b) (by omega)]
  rfl
theorem G.quo8 {t : TypeId} {a b : Int} (ha : 0 ≤ a ∧ a ≤ 255) (hb : 0 < b) (hk : G S (K (.int .u8 (a / b)))) : G S (Do P (V (binOp .quo t (.int .u8 a) (.int .u8 b))) K) :=
  haveI := Yd.quo8 (P := P) (S := S) (t := t) ha hb
  G.step hk
theorem G.qquo8 {t : TypeId} {a b : Int} (ha : 0 ≤ a ∧ a ≤ 255) (hb : 0 < b) (hk : G S (KQ TrueC (.int .u8 (a / b)))) : G S (Qk P (V (binOp .quo t (.int .u8 a) (.int .u8 b))) KQ) :=
  haveI := Yd.quo8 (P := P) (S := TrueC) (t := t) ha hb
  G.qkp hk
theorem G.add8 {t : TypeId} {a b : Int} (h : 0 ≤ a + b ∧ a + b ≤ 255) (hk : G S (K (.int .u8 (a + b)))) : G S (Do P (V (binOp .add t (.int .u8 a) (.int .u8 b))) K) :=
  G.step (v := .int .u8 (IntKind.u8.wrap (a + b))) (by rw [wrap8 h]; exact hk)
theorem Yd.shr8 {t : TypeId} {yk : IntKind} {a y : Int} (hy : 0 ≤ y ∧ y ≤ 7) : Yd P S (V (binOp .shr t (.int .u8 a) (.int yk y))) (.int .u8 (a / 2 ^ y.toNat)) := Yd.of fun w => by
  have hm : min y.toNat IntKind.u8.bits = y.toNat := by
    show min y.toNat 8 = _
    omega
  simp only [binOp, Op.shift, if_neg (show ¬ y < 0 by omega), hm]
  have : a.fdiv (2 ^ y.toNat) = a / 2 ^ y.toNat := Int.fdiv_eq_ediv_of_nonneg _ (Int.le_of_lt (Int.pow_pos (by decide)))
  rw [this]
  rfl
theorem G.qshr8 {t : TypeId} {yk : IntKind} {a y : Int} (hy : 0 ≤ y ∧ y ≤ 7) (hk : G S (KQ TrueC (.int .u8 (a / 2 ^ y.toNat)))) : G S (Qk P (V (binOp .shr t (.int .u8 a) (.int yk y))) KQ) :=
  haveI := Yd.shr8 (P := P) (S := TrueC) (t := t) (yk := yk) (a := a) hy
  G.qkp hk
theorem Yd.and8 {t : TypeId} {a b : Int} : Yd P S (V (binOp .and t (.int .u8 a) (.int .u8 b))) (.int .u8 (IntKind.u8.wrap ((BitVec.ofInt 8 a &&& BitVec.ofInt 8 b).toNat : Int))) := Yd.of fun w => by
  simp only [binOp, ne_eq, not_true, if_false, Op.intBits]
  rfl
theorem G.qand8 {t : TypeId} {a b : Int} (hk : ∀ x : Int, G S (KQ TrueC (.int .u8 x))) : G S (Qk P (V (binOp .and t (.int .u8 a) (.int .u8 b))) KQ) :=
  haveI := Yd.and8 (P := P) (S := TrueC) (t := t) (a := a) (b := b)
  G.qkp (hk _)
section
variable {α : Type} {enc : α → List Value} {v : Value} {l : List α} {t e sz by_ : Nat}
theorem Gs.qsetE {te : TypeId} [ht : TSlice P t e sz by_] [hz : TSize P te sz] [he : Enc enc sz] [htk : TakeS L v e sz (fl enc l) R] {i : Nat} {kk : IntKind} (hi : i < l.length) {u : Value} {a : α} [hc : Cells u (enc a)] {KP : WP → Value → Value → WP}
    (hk : ∀ p, Gs w0 h0 h (.sl v e sz (fl enc (l.set i a)) :: R) (KP TrueC p undef)) : Gs w0 h0 h L (Qk P (V (Instr.indexAt t v (.int kk i))) fun C p => Do P (U (Instr.storeAt te p u)) (KP C p)) := Gs.perm htk.perm ⟨fun w s => by
  obtain ⟨_, _, _, _, _, h5⟩ := ht.spec
  obtain ⟨b, off, cap, hv, ho⟩ := own_at (enc := enc) (l := l) (i := i) hi h5 s.head_sl
  subst hv
  haveI : Yd P TrueC (V (Instr.indexAt t (.slice (some ⟨b, off, none⟩) l.length cap) (.int kk i))) (ptr b (off + i * sz)) := ⟨fun w' _ => by
    have hr := indexAt_run (P := P) (t := t) (e := e) (sz := sz) (by_ := by_) (n := l.length) (cap := cap) (b := b) (o := off) (k := kk) (i := (i : Int)) ⟨by omega, by omega⟩ w'
    rw [Int.toNat_natCast] at hr
    exact hr⟩
  haveI : Flat (enc a) := ⟨he.flat a⟩
  haveI : LenIs (enc a) sz := ⟨he.len a⟩
  have := Gs.ostore (P := P) (w0 := w0) (h0 := h0) (h := h) (L := .sl (.slice (some ⟨b, off, none⟩) l.length cap) e sz (fl enc l) :: R) (R := R) (enc := enc) (l := l) (te := te) (n := sz) (u := u) (cs := enc a) (pa := []) (pc := enc l[i]) (c := 0) (i := i) (a := a) (b := b) (o := off + i * sz) (v := .slice (some ⟨b, off, none⟩) l.length cap) (K := KP TrueC (ptr b (off + i * sz))) hi ho ⟨off, l.length, cap, rfl, rfl⟩
    (by simp [List.drop_eq_nil_of_le (Nat.le_of_eq (he.len l[i]))]) (by omega) (hk _)
  rw [Nat.add_zero] at this
  exact (G.qkp (S := St w0 h0 h (.sl (.slice (some ⟨b, off, none⟩) l.length cap) e sz (fl enc l) :: R)) this).run w s⟩
end
end Go.Sk
end

