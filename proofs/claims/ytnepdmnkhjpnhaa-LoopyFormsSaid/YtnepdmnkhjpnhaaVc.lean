/-
  Lemmas for the proof of the statement of this claim: a part of the road, no statement of its own. Conditions: those that each lemma names.
-/
import Derived.Test.YtnepdmnkhjpnhaaKs
import Derived.Test.YtnepdmnkhjpnhaaVm
import Derived.Test.YtnepdmnkhjpnhaaKw
section
/-
  Values: how forms and nodes lie in memory; the book that keeps them.
-/
set_option linter.unusedVariables false
set_option linter.unusedSimpArgs false
set_option linter.unusedSectionVars false
set_option maxHeartbeats 4000000
namespace Go.Proofs.Ytnepdmnkhjpnhaa
open Go Go.Sk Go.Va Go.RowKit
variable {M : Go.Sk.Mode}
/-! ### Forms -/
abbrev FmH := SlH × SlH
abbrev eFH : FmH → List Value := fun x => [slv x.1, slv x.2]
instance encFH : Enc eFH 2 := ⟨fun _ => rfl, fun a v h => by
  simp only [eFH, List.mem_cons, List.not_mem_nil, or_false] at h
  rcases h with rfl | rfl <;> rfl⟩
abbrev vF (x : FmH) : Value := .agg #[slv x.1, slv x.2]
instance ldFH : LdE Try.prog 61 eFH (fun x => vF x) := LdE.agg
mutual
def FmR (h : Hp) : FmH → Fm → Prop
  | x, .mk l r => (∃ hl, RdE h (slv x.1) eFH 2 hl ∧ FmRs h hl l) ∧ (∃ hr, RdE h (slv x.2) eFH 2 hr ∧ FmRs h hr r)
def FmRs (h : Hp) : List FmH → List Fm → Prop
  | [], [] => True
  | x :: xs, f :: fs => FmR h x f ∧ FmRs h xs fs
  | _, _ => False
end
theorem FmRs_all2 {h : Hp} : ∀ {xs : List FmH} {fs : List Fm}, FmRs h xs fs ↔ All2 (FmR h) xs fs
  | [], [] => by simp [FmRs, All2.nil]
  | [], f :: fs => by simp only [FmRs, false_iff]; intro h; cases h
  | x :: xs, [] => by simp only [FmRs, false_iff]; intro h; cases h
  | x :: xs, f :: fs => by
    simp only [FmRs]
    rw [FmRs_all2 (xs := xs) (fs := fs)]
    exact ⟨fun h => .cons h.1 h.2, fun h => by cases h with | cons a b => exact ⟨a, b⟩⟩
theorem FmR_iff {h : Hp} {x : FmH} {f : Fm} : FmR h x f ↔ RdF h (slv x.1) eFH 2 FmR f.L ∧ RdF h (slv x.2) eFH 2 FmR f.R := by
  cases f with
  | mk l r =>
    simp only [FmR, Fm.L, Fm.R, RdF, FmRs_all2]
theorem FmR.l {h : Hp} {x : FmH} {f : Fm} (hx : FmR h x f) : RdF h (slv x.1) eFH 2 FmR f.L := (FmR_iff.1 hx).1
theorem FmR.r {h : Hp} {x : FmH} {f : Fm} (hx : FmR h x f) : RdF h (slv x.2) eFH 2 FmR f.R := (FmR_iff.1 hx).2
theorem all2_mono' {α β : Type} {R T : α → β → Prop} : ∀ {l : List α} {m : List β}, All2 R l m → (∀ a, ∀ b ∈ m, R a b → T a b) → All2 T l m
  | _, _, .nil, _ => .nil
  | _, _, .cons h1 h2, h => .cons (h _ _ (by simp) h1) (all2_mono' h2 fun a b hb => h a b (by simp [hb]))
theorem FmR.mono' {h h' : Hp} (hle : Hle h h') (f : Fm) : ∀ x, FmR h x f → FmR h' x f := by
  refine Fm.ind (C := fun f => ∀ x, FmR h x f → FmR h' x f) (fun f hl hr x hx => ?_) f
  obtain ⟨⟨a, a1, a2⟩, ⟨b, b1, b2⟩⟩ := FmR_iff.1 hx
  exact FmR_iff.2 ⟨⟨a, a1.mono hle, all2_mono' a2 fun c d hd hc => hl d hd c hc⟩, ⟨b, b1.mono hle, all2_mono' b2 fun c d hd hc => hr d hd c hc⟩⟩
instance relFm : RelM FmR := ⟨fun hle hx => FmR.mono' hle _ _ hx⟩
theorem FmR.mono {h h' : Hp} {x : FmH} {f : Fm} (hx : FmR h x f) (hle : Hle h h') : FmR h' x f := FmR.mono' hle _ _ hx
theorem FmR.zero (h : Hp) : FmR h ((none, 0, 0), (none, 0, 0)) Va.zero := FmR_iff.2 ⟨RdF.nil _ _ _ _, RdF.nil _ _ _ _⟩
/-- The length of a form's options. -/
theorem len_le_szs : ∀ l : List Fm, l.length ≤ szs l
  | [] => Nat.le_refl _
  | x :: l => by have := len_le_szs l; have := sz_pos x; simp only [List.length_cons, szs]; omega
theorem lenL (f : Fm) : f.L.length < sz f := by have := len_le_szs f.L; rw [sz_eq]; omega
theorem lenR (f : Fm) : f.R.length < sz f := by have := len_le_szs f.R; rw [sz_eq]; omega
/-! ### Nodes -/
abbrev ePt : Nat → List Value := fun b => [ptr b 0]
instance encPt : Enc ePt 1 := ⟨fun _ => rfl, fun a v h => by
  simp only [ePt, List.mem_singleton] at h
  subst h; rfl⟩
instance ldPt : LdE Try.prog 97 ePt (fun b => ptr b 0) := ⟨fun h b o x hp => loadP1 (cs := []) hp, fun v e' sz xs b o x hp => oloadP1 (cs := []) hp⟩
mutual
def NdR (h : Hp) : Nat → Fm → Prop
  | b, .mk l r => ∃ ql qr : SlH, PtAt h b 0 [Str (pr (.mk l r)), slv ql, slv qr] ∧ (∃ hl, RdE h (slv ql) ePt 1 hl ∧ NdRs h hl l) ∧ (∃ hr, RdE h (slv qr) ePt 1 hr ∧ NdRs h hr r)
def NdRs (h : Hp) : List Nat → List Fm → Prop
  | [], [] => True
  | x :: xs, f :: fs => NdR h x f ∧ NdRs h xs fs
  | _, _ => False
end
theorem NdRs_all2 {h : Hp} : ∀ {xs : List Nat} {fs : List Fm}, NdRs h xs fs ↔ All2 (NdR h) xs fs
  | [], [] => by simp [NdRs, All2.nil]
  | [], f :: fs => by simp only [NdRs, false_iff]; intro h; cases h
  | x :: xs, [] => by simp only [NdRs, false_iff]; intro h; cases h
  | x :: xs, f :: fs => by
    simp only [NdRs]
    rw [NdRs_all2 (xs := xs) (fs := fs)]
    exact ⟨fun h => .cons h.1 h.2, fun h => by cases h with | cons a b => exact ⟨a, b⟩⟩
theorem NdR_iff {h : Hp} {b : Nat} {f : Fm} : NdR h b f ↔ ∃ ql qr : SlH, PtAt h b 0 [Str (pr f), slv ql, slv qr] ∧ RdF h (slv ql) ePt 1 NdR f.L ∧ RdF h (slv qr) ePt 1 NdR f.R := by
  cases f with
  | mk l r =>
    simp only [NdR, Fm.L, Fm.R, RdF, NdRs_all2]
theorem NdR.mono' {h h' : Hp} (hle : Hle h h') (f : Fm) : ∀ b, NdR h b f → NdR h' b f := by
  refine Fm.ind (C := fun f => ∀ b, NdR h b f → NdR h' b f) (fun f hl hr x hx => ?_) f
  obtain ⟨ql, qr, hp, ⟨a, a1, a2⟩, ⟨b, b1, b2⟩⟩ := NdR_iff.1 hx
  exact NdR_iff.2 ⟨ql, qr, hp.mono hle, ⟨a, a1.mono hle, all2_mono' a2 fun c d hd hc => hl d hd c hc⟩, ⟨b, b1.mono hle, all2_mono' b2 fun c d hd hc => hr d hd c hc⟩⟩
instance relNd : RelM NdR := ⟨fun hle hx => NdR.mono' hle _ _ hx⟩
theorem NdR.mono {h h' : Hp} {b : Nat} {f : Fm} (hx : NdR h b f) (hle : Hle h h') : NdR h' b f := NdR.mono' hle _ _ hx
theorem NdR.text {h : Hp} {b : Nat} {f : Fm} (hx : NdR h b f) : PtAt h b 0 [Str (pr f)] := by
  obtain ⟨ql, qr, hp, _⟩ := NdR_iff.1 hx
  intro j v e
  cases j with
  | zero => exact hp 0 v e
  | succ j => simp at e
theorem NdR.l {h : Hp} {b : Nat} {f : Fm} (hx : NdR h b f) : ∃ q : SlH, PtAt h b 1 [slv q] ∧ RdF h (slv q) ePt 1 NdR f.L := by
  obtain ⟨ql, qr, hp, h1, h2⟩ := NdR_iff.1 hx
  refine ⟨ql, fun j v e => ?_, h1⟩
  cases j with
  | zero => exact hp 1 v e
  | succ j => simp at e
theorem NdR.r {h : Hp} {b : Nat} {f : Fm} (hx : NdR h b f) : ∃ q : SlH, PtAt h b 2 [slv q] ∧ RdF h (slv q) ePt 1 NdR f.R := by
  obtain ⟨ql, qr, hp, h1, h2⟩ := NdR_iff.1 hx
  refine ⟨qr, fun j v e => ?_, h2⟩
  cases j with
  | zero => exact hp 2 v e
  | succ j => simp at e
/-! ### The book -/
abbrev kS : List UInt8 → Value := fun s => Str s
abbrev kP : List UInt8 × List UInt8 → Value := fun p => .agg #[Str p.1, Str p.2]
abbrev vP : Nat → Value := fun b => ptr b 0
abbrev vBoN : Bool → Value := fun b => .bool b
structure BkSt where
  n : List (List UInt8 × Nat)
  q : List ((List UInt8 × List UInt8) × Bool)
  c : List (List UInt8 × Nat)
structure BkI (h : Hp) (s : BkSt) : Prop where
  n : ∀ k b, mget s.n k = some b → ∃ f, k = pr f ∧ NdR h b f
  q : ∀ k v, mget s.q k = some v → ∃ f g, k = (pr f, pr g) ∧ v = leq f g
  c : ∀ k b, mget s.c k = some b → ∃ f, k = pr f ∧ NdR h b (canon f)
theorem BkI.mono {h h' : Hp} {s : BkSt} (hle : Hle h h') (hs : BkI h s) : BkI h' s :=
  ⟨fun k b e => by obtain ⟨f, h1, h2⟩ := hs.n k b e; exact ⟨f, h1, h2.mono hle⟩, hs.q, fun k b e => by obtain ⟨f, h1, h2⟩ := hs.c k b e; exact ⟨f, h1, h2.mono hle⟩⟩
/-- The book's block, its three maps. -/
structure Bk where
  b : Nat
  r1 : Nat
  r2 : Nat
  r3 : Nat
abbrev bkL (k : Bk) (s : BkSt) : List Itm := [.ob k.r1 (mO kS vP s.n), .ob k.r2 (mO kP vBoN s.q), .ob k.r3 (mO kS vP s.c)]
abbrev bkV (k : Bk) : List Value := [.map (some k.r1), .map (some k.r2), .map (some k.r3)]
def BQ (k : Bk) : Hp → List Itm → Prop := fun h B => PtAt h k.b 0 (bkV k) ∧ ∃ s, BkI h s ∧ B = bkL k s
instance qmB {k : Bk} : QM (BQ k) := ⟨fun hle ⟨h0, s, h1, h2⟩ => ⟨h0.mono hle, s, h1.mono hle, h2⟩⟩
section
variable {w0 : World} {h0 h : Hp} {L : List Itm} {X : WP} {k : Bk}
theorem Bw.open (hk : ∀ h' s, Hle h h' → PtAt h' k.b 0 (bkV k) → BkI h' s → Gs w0 h0 h' (.ob k.r1 (mO kS vP s.n) :: .ob k.r2 (mO kP vBoN s.q) :: .ob k.r3 (mO kS vP s.c) :: L) X) : Gw (BQ k) w0 h0 h L X :=
  Gw.open fun h' B hle hQ => by
    obtain ⟨hp, s, hs, rfl⟩ := hQ
    exact hk h' s hle hp hs
theorem Bw.close {L0 : List Itm} (s : BkSt) (hp : PtAt h k.b 0 (bkV k)) (hs : BkI h s) [hl : Sel L0 (.ob k.r1 (mO kS vP s.n) :: .ob k.r2 (mO kP vBoN s.q) :: .ob k.r3 (mO kS vP s.c) :: L)] (hk : Gw (BQ k) w0 h0 h L X) : Gs w0 h0 h L0 X :=
  Gs.sel (L' := .ob k.r1 (mO kS vP s.n) :: .ob k.r2 (mO kP vBoN s.q) :: .ob k.r3 (mO kS vP s.c) :: L) (Gw.close (B := bkL k s) ⟨hp, s, hs, rfl⟩ hk)
end
/-! ### Strings, and pairs of them, as keys -/
theorem beqS (a b : List UInt8) : ((⟨a.toArray⟩ : ByteArray) == ⟨b.toArray⟩) = decide (a = b) := by
  rw [beq_toListBytes]
  by_cases h : a = b <;> simp [h]
theorem strD {P : Program} {t : Nat} (ht : P.underlying t = some .string) (a b : List UInt8) (D : Nat) (w : World) : (Op.equalIn (D + 1) t (Str a) (Str b)).run P w = .ok (decide (a = b)) w := by
  rw [run_equalIn_string (w := w) D t _ _ ht]
  congr 1
  by_cases h : a = b <;> simp [h]
theorem ckS {P : Program} {t : Nat} (ht : P.underlying t = some .string) (a : List UInt8) (b : Bool) (D : Nat) (w : World) : (Instr.checkKey b (D + 1) t (Str a)).run P w = .ok () w := by
  unfold Instr.checkKey
  rw [Sem.run_bind, runU ht, Result.andThen_ok]
  rfl
instance keyS : KeyT Try.prog 9 kS := ⟨fun b k w => ckS Try.underlying9 k b 9999 w, ⟨.string, Try.underlying9, .inr fun k k' => by
  show some (_ == _) = _
  rw [beqS]⟩, fun k => by
  show ((⟨k.toArray⟩ : ByteArray) == ⟨k.toArray⟩) = true
  rw [beqS]; simp⟩
theorem partS (a b : List UInt8) (w : World) : (part 9 #[Str a, Str b] 0).run Try.prog w = .ok (Str a) w ∧ (part 9 #[Str a, Str b] 1).run Try.prog w = .ok (Str b) w :=
  ⟨run_part1 (cs := [Str a, Str b]) (off := 0) (v := Str a) Try.underlying9 rfl rfl, run_part1 (cs := [Str a, Str b]) (off := 1) (v := Str b) Try.underlying9 rfl rfl⟩
theorem pairFs : ∃ f0 f1 : Field, Try.prog.underlying 137 = some (.struct #[f0, f1]) ∧ f0.name ≠ "_" ∧ f0.type = 9 ∧ f0.offset = 0 ∧ f1.name ≠ "_" ∧ f1.type = 9 ∧ f1.offset = 1 := by
  have key : ∃ fs : Array Field, Try.prog.underlying 137 = some (.struct fs) ∧ (fs.toList.map fun f => (f.name == "_", f.type, f.offset)) = [(false, 9, 0), (false, 9, 1)] := ⟨Try.prog.fieldsOf 137, by kernel_rfl, by kernel_rfl⟩
  obtain ⟨⟨fs⟩, h1, h2⟩ := key
  match fs, h2 with
  | [f0, f1], h2 =>
    simp only [List.map_cons, List.map_nil, List.cons.injEq, Prod.mk.injEq, and_true, beq_eq_false_iff_ne] at h2
    exact ⟨f0, f1, h1, h2.1.1, h2.1.2.1, h2.1.2.2, h2.2.1, h2.2.2.1, h2.2.2.2⟩
  | [], h2 => simp at h2
  | [_], h2 => simp at h2
  | _ :: _ :: _ :: _, h2 => simp at h2
theorem eqP (p q : List UInt8 × List UInt8) (D : Nat) (w : World) : (Op.equalIn (D + 2) 137 (kP p) (kP q)).run Try.prog w = .ok (decide (p = q)) w := by
  obtain ⟨f0, f1, hu, a1, a2, a3, b1, b2, b3⟩ := pairFs
  have hfo : Try.prog.fieldsOf 137 = #[f0, f1] := by unfold Program.fieldsOf; rw [hu]
  rw [run_equalIn_struct w (D + 1) 137 _ _ (by rw [hfo]; exact hu) (by kernel_rfl), hfo]
  obtain ⟨p1, p2⟩ := p
  obtain ⟨q1, q2⟩ := q
  simp only [Op.eqFields, Sem.run_bind, a1, a2, a3, b1, b2, b3, (partS _ _ _).1, (partS _ _ _).2, Result.andThen_ok, strD Try.underlying9, ne_eq, not_false_eq_true, if_true]
  by_cases h1 : p1 = q1
  · by_cases h2 : p2 = q2 <;> simp [h1, h2, Sem.run_bind, (partS _ _ _).2, strD Try.underlying9, pure, Sem.run]
  · simp [h1, pure, Sem.run]
instance keyP : KeyT Try.prog 137 kP := by
  obtain ⟨f0, f1, hu, a1, a2, a3, b1, b2, b3⟩ := pairFs
  exact ⟨fun b k w => by
    unfold Instr.checkKey
    rw [Sem.run_bind, runU hu, Result.andThen_ok]
    obtain ⟨k1, k2⟩ := k
    have c1 := ckS Try.underlying9 k1 b 9998 w
    have c2 := ckS Try.underlying9 k2 b 9998 w
    simp only [List.forIn_toArray, List.forIn_cons, List.forIn_nil, Sem.run_bind, a1, a2, a3, b1, b2, b3, (partS _ _ _).1, (partS _ _ _).2, c1, c2, ne_eq, not_false_eq_true, if_true, Result.andThen_ok, run_pure], ⟨_, hu, .inl ⟨fun k k' => rfl, fun k k' w => eqP k k' 9998 w⟩⟩, fun k => by
    obtain ⟨k1, k2⟩ := k
    simp [Instr.sameBits, beqS]⟩
end Go.Proofs.Ytnepdmnkhjpnhaa
end

section
set_option linter.unusedVariables false
set_option linter.unusedSimpArgs false
set_option linter.unusedSectionVars false
set_option maxHeartbeats 4000000
namespace Go.Proofs.Ytnepdmnkhjpnhaa
open Go Go.Sk Go.Va Go.RowKit
variable {M : Go.Sk.Mode} {w0 : World} {h0 h : Hp} {L R R' : List Itm} {K : Value → WP}
instance tpB : TPtr Try.prog 122 125 2 := ⟨by kernel_rfl⟩
theorem run_noesc (x : Value) (w : World) : (vCall (.func (.func 98) #[] ⟨[]⟩) [x]).run Try.prog w = .ok (.value x) w := by
  have := run_callFunc_extern (P := Try.prog) (w := w) Try.func98 (by kernel_rfl) (by kernel_rfl) (by kernel_rfl) (e := Extern.AbiNoEscape.same) (by kernel_rfl) (args := #[x])
  rw [Lib.run_noEscape] at this
  unfold vCall Deferred.ofValue
  simp only [pure_bind]
  exact this
instance Yd.noesc {S : WP} {x : Value} : Yd Try.prog S (vCall (.func (.func 98) #[] ⟨[]⟩) [x]) x := ⟨fun w _ => run_noesc x w⟩
def BldP (b : Nat) (p : Value) : Prop := p = .pointer none ∨ p = ptr b 0
theorem cc_call {b : Nat} {p v : Value} {c : List Value} [hcv : Cells v [v]] [hfv : Flat [v]] (hp : BldP b p) [htk : TakeB L b [p, v] 125 R] (hk : Gs w0 h0 h (.blk b [ptr b 0, v] 125 :: R) (K (.tuple #[]))) : Gs w0 h0 h L (Do Try.prog (vCall (.func (.func 85) #[] ⟨[]⟩) [ptr b 0]) K) := by
  refine Gs.perm htk.perm ?_
  refine in85 ?_
  unfold s85
  rcases hp with rfl | rfl
  · refine G.step ?_
    refine G.step ?_
    refine G.step ?_
    refine G.step ?_
    refine G.ift ?_
    refine Gs.toU (cs := [.pointer none, v]) (by kernel_rfl) rfl ?_
    refine G.step ?_
    refine Gs.ofU (cs := [.pointer none, v]) (by kernel_rfl) (by kernel_rfl) ?_
    refine G.step ?_
    refine G.step ?_
    refine Gs.store ?_
    exact hk
  · refine G.step ?_
    refine G.step ?_
    refine G.step ?_
    refine G.step ?_
    refine G.iff ?_
    refine G.step ?_
    refine G.step ?_
    refine G.step ?_
    refine G.step ?_
    refine G.iff ?_
    exact hk
/-- A builder: its block, its buffer. -/
theorem wbyte_call {b : Nat} {p : Value} {q : SlH} {l : List UInt8} (c : UInt8) (hp : BldP b p) (hv : Hd0 (slv q)) [htk : TakeB L b [p, slv q] 125 R] [hts : TakeS R (slv q) 5 1 (fl eByte l) R'] (hl : l.length ≤ 4000000)
    (hk : ∀ q' : SlH, Hd0 (slv q') → Gs w0 h0 h (.blk b [ptr b 0, slv q'] 125 :: .sl (slv q') 5 1 (fl eByte (l ++ [c])) :: R') (K .nilIface)) : Gs w0 h0 h L (Do Try.prog (vCall (.func (.func 73) #[] ⟨[]⟩) [ptr b 0, .int .u8 c.toNat]) K) := by
  refine Gs.perm (htk.perm.trans ((hts.perm.cons _))) ?_
  refine in73 ?_
  unfold s73
  refine cc_call (c := []) hp ?_
  refine G.step ?_
  refine G.step ?_
  refine G.step ?_
  refine Gs.buildSlice (by decide) ?_
  intro tb
  haveI : SrcG Try.prog (St w0 h0 h (.sl (.slice (some ⟨tb, 0, none⟩) 1 1) 5 1 [.int .u8 c.toNat] :: .blk b [ptr b 0, slv q] 125 :: .sl (slv q) 5 1 (fl eByte l) :: R')) 1 123 (.slice (some ⟨tb, 0, none⟩) 1 1) (fl eByte [c]) := SrcG.ofOwn (e2 := 5) (by simp [fl, eByte]) (by decide)
  refine Gs.appendB (by rw [fl_len, fl_len]; simp; omega) (by rw [fl_len, fl_len]; simp; omega) ?_
  intro v' hv'
  have hd := hv' hv
  have : ∃ q' : SlH, v' = slv q' := by
    rcases hd with rfl | ⟨b', n', c', rfl, _⟩
    · exact ⟨(none, 0, 0), rfl⟩
    · exact ⟨(some ⟨b', 0, none⟩, n', c'), rfl⟩
  obtain ⟨q', rfl⟩ := this
  rw [← fl_append]
  refine G.step ?_
  refine G.step ?_
  refine Gs.store ?_
  exact Gs.sel (hk q' hd)
theorem wstr_call {b : Nat} {p : Value} {q : SlH} {l : List UInt8} (s : List UInt8) (hp : BldP b p) (hv : Hd0 (slv q)) [htk : TakeB L b [p, slv q] 125 R] [hts : TakeS R (slv q) 5 1 (fl eByte l) R'] (hl : l.length ≤ 100000000) (hs : s.length ≤ 100000000)
    (hk : ∀ q' : SlH, Hd0 (slv q') → Gs w0 h0 h (.blk b [ptr b 0, slv q'] 125 :: .sl (slv q') 5 1 (fl eByte (l ++ s)) :: R') (K (.tuple #[I s.length, .nilIface]))) : Gs w0 h0 h L (Do Try.prog (vCall (.func (.func 74) #[] ⟨[]⟩) [ptr b 0, Str s]) K) := by
  refine Gs.perm (htk.perm.trans ((hts.perm.cons _))) ?_
  refine in74 ?_
  unfold s74
  refine cc_call (c := []) hp ?_
  refine G.step ?_
  refine G.step ?_
  refine G.step ?_
  haveI : SrcG Try.prog (St w0 h0 h (.blk b [ptr b 0, slv q] 125 :: .sl (slv q) 5 1 (fl eByte l) :: R')) 1 9 (Str s) (fl eByte s) := SrcG.str
  refine Gs.appendB (by rw [fl_len, fl_len]; simp; omega) (by rw [fl_len, fl_len]; simp; omega) ?_
  intro v' hv'
  have hd := hv' hv
  have : ∃ q' : SlH, v' = slv q' := by
    rcases hd with rfl | ⟨b', n', c', rfl, _⟩
    · exact ⟨(none, 0, 0), rfl⟩
    · exact ⟨(some ⟨b', 0, none⟩, n', c'), rfl⟩
  obtain ⟨q', rfl⟩ := this
  rw [← fl_append]
  refine G.step ?_
  refine G.step ?_
  refine Gs.store ?_
  refine G.step ?_
  exact Gs.sel (hk q' hd)
theorem bstr_call {b : Nat} {p : Value} {q : SlH} {l : List UInt8} (hv : Hd0 (slv q)) [htk : TakeB L b [p, slv q] 125 R] [hts : TakeS R (slv q) 5 1 (fl eByte l) R'] (hl : l.length ≤ 9223372036854775807)
    (hk : Gs w0 h0 h R' (K (Str l))) : Gs w0 h0 h L (Do Try.prog (vCall (.func (.func 75) #[] ⟨[]⟩) [ptr b 0]) K) := by
  refine Gs.perm (htk.perm.trans ((hts.perm.cons _))) ?_
  refine in75 ?_
  unfold s75
  refine Gs.dr ?_
  refine G.qkp ?_
  refine G.qkp ?_
  refine Gs.qkb ?_
  refine G.qkp ?_
  refine G.qkp ?_
  refine Gs.qkb ?_
  refine Gs.qolen (enc := eByte) (l := l) hl ?_
  refine G.usd hv ?_
  intro u hu
  refine G.withT ?_
  refine Gs.withb ?_
  refine G.withT ?_
  refine G.withT ?_
  refine Gs.ustr hu (by kernel_rfl) (by kernel_rfl) hl ?_
  exact G.mono hk (fun w s => s.sub (List.sublist_cons_self _ _))
end Go.Proofs.Ytnepdmnkhjpnhaa
end

section
/-
  Values: the node of options: its text, found or entered in the book.
-/
set_option linter.unusedVariables false
set_option linter.unusedSimpArgs false
set_option linter.unusedSectionVars false
set_option maxHeartbeats 8000000
namespace Go.Proofs.Ytnepdmnkhjpnhaa
open Go Go.Sk Go.Va Go.RowKit
variable {M : Go.Sk.Mode}
/-- The texts of forms, with commas between them, but for the first i. -/
theorem prs_take (l : List Fm) (i : Nat) (hi : i < l.length) : prs (l.take (i + 1)) = prs (l.take i) ++ ((if 0 < i then [44] else []) ++ pr l[i]) := by
  have snoc : ∀ (l : List Fm) (x : Fm), prt (l ++ [x]) = prt l ++ (44 :: pr x) := by
    intro l x
    induction l with
    | nil => simp [prt]
    | cons y l ih => simp only [List.cons_append, prt, ih, List.append_assoc]
  rw [List.take_succ_eq_append_getElem hi]
  cases i with
  | zero => simp [prs, prt]
  | succ i =>
    cases l with
    | nil => simp at hi
    | cons y l => simp only [List.take_succ_cons, List.cons_append, prs, snoc]; simp
theorem prs_len_take (l : List Fm) (i : Nat) : (prs (l.take i)).length ≤ 4 * szs l := by
  have h1 := prs_len (l.take i)
  have h2 : szs (l.take i) ≤ szs l := szs_sublist (List.take_sublist i l)
  omega
theorem write_in {w0 : World} {h0 h : Hp} {L R R' : List Itm} {K : Value → WP} {b : Nat} {p : Value} {q : SlH} {t : List UInt8} (v : SlH) (l : List Fm) (hp : p = ptr b 0) (hv : Hd0 (slv q)) (hl : RdF h (slv v) ePt 1 NdR l) (hn : szs l ≤ 200000) (ht : t.length ≤ 2000000)
    [htk : TakeB L b [p, slv q] 125 R] [hts : TakeS R (slv q) 5 1 (fl eByte t) R']
    (hk : ∀ q' : SlH, Hd0 (slv q') → Gs w0 h0 h (.blk b [ptr b 0, slv q'] 125 :: .sl (slv q') 5 1 (fl eByte (t ++ prs l)) :: R') (K (.tuple #[]))) :
    Gs w0 h0 h L (Do Try.prog (vCall (.func (.func 72) #[] ⟨[ptr b 0]⟩) [slv v]) K) := by
  subst hp
  refine Gs.perm (htk.perm.trans ((hts.perm.cons _))) ?_
  refine in72 ?_
  unfold s72
  have hll := len_le_szs l
  refine Gs.lenF hl (by omega) ?_
  refine Gs.lp (β := Nat × SlH) (fun u => I u.1) (fun _ => h) (fun u => .blk b [ptr b 0, slv u.2] 125 :: .sl (slv u.2) 5 1 (fl eByte (t ++ prs (l.take u.1))) :: R') (fun u => u.1 ≤ l.length ∧ Hd0 (slv u.2)) (fun u => l.length - u.1) (0, q) rfl ⟨Nat.zero_le _, hv⟩ (fun _ s => by simpa [prs] using s) ?_
  rintro ⟨i, u⟩ ⟨hi, hu⟩ cont hc
  dsimp only at hi hu hc ⊢
  (repeat (first | refine G.step ?_ | (refine G.jk ?_; intro _)))
  refine G.ifd ?_ ?_ <;> intro hlt
  · have hlt' : i < l.length := by omega
    have hpt := prs_take l i hlt'
    have hlen := prs_len_take l i
    have hlen1 := pr_len l[i]
    have hszi := sz_mem (List.getElem_mem hlt')
    refine Gs.indexF hl hlt' ?_
    intro b1 o1 x1 hp1 hx1
    refine Gs.loadE hp1 ?_
    refine G.jnk (fun (_ : Unit) S' => ∃ u' : SlH, Hd0 (slv u') ∧ S' = St w0 h0 h (.blk b [ptr b 0, slv u'] 125 :: .sl (slv u') 5 1 (fl eByte (t ++ prs (l.take i) ++ (if 0 < i then [44] else []))) :: R')) ?_ ?_
    · rintro _ _ ⟨u', hu', rfl⟩
      refine G.jk ?_; intro _
      (repeat (refine G.step ?_))
      refine Gs.loadP1 hx1.text ?_
      refine wstr_call (pr l[i]) (.inr rfl) hu' (by simp; split <;> simp <;> omega) (by omega) ?_
      intro q2 hq2
      (repeat (refine G.add (by omega) ?_))
      refine Gs.go (t' := I ((i + 1 : Nat) : Int)) ?_ (by simp)
      have := hc (i + 1, q2) ⟨by dsimp only; omega, hq2⟩ (by dsimp only; omega)
      rw [hpt] at this
      simpa only [List.append_assoc] using this
    · intro k' hk'
      (repeat (refine G.step ?_))
      refine G.ifd ?_ ?_ <;> intro hpos
      · refine wbyte_call (b := b) (q := u) 44 (.inr rfl) hu (by simp; omega) ?_
        intro q2 hq2
        exact hk' () _ ⟨q2, hq2, by rw [if_pos (by omega)]⟩
      · refine hk' () _ ⟨u, hu, by rw [if_neg (by omega), List.append_nil]⟩
  · have hi' : i = l.length := by omega
    subst hi'
    rw [List.take_length]
    exact hk u hu
theorem pr_mk (l r : List Fm) : pr (.mk l r) = [] ++ [123] ++ prs l ++ [124] ++ prs r ++ [125] := by simp [pr]
end Go.Proofs.Ytnepdmnkhjpnhaa
end

section
/-
  Values: make: the node of options, found or entered in the book; forms entered; the form of a node.
-/
set_option linter.unusedVariables false
set_option linter.unusedSimpArgs false
set_option linter.unusedSectionVars false
set_option maxHeartbeats 8000000
namespace Go.Proofs.Ytnepdmnkhjpnhaa
open Go Go.Sk Go.Va Go.RowKit
variable {M : Go.Sk.Mode} {w0 : World} {h0 h : Hp} {L : List Itm} {K : Value → WP} {k : Bk}
theorem make_ok (ql qr : SlH) (l r : List Fm) (hl : RdF h (slv ql) ePt 1 NdR l) (hr : RdF h (slv qr) ePt 1 NdR r) (hn : szs l + szs r ≤ 200000)
    (hk : ∀ b h', Hle h h' → NdR h' b (.mk l r) → Gw (BQ k) w0 h0 h' L (K (ptr b 0))) : Gw (BQ k) w0 h0 h L (Do Try.prog (vCall (.func (.func 57) #[] ⟨[]⟩) [ptr k.b 0, slv ql, slv qr]) K) := by
  refine in57 ?_
  unfold s57
  refine Bw.open ?_
  intro h1 s le1 hb hs
  have hl1 := hl.mono le1
  have hr1 := hr.mono le1
  have n1 := prs_len l
  have n2 := prs_len r
  refine Gs.alloc ?_; intro wb
  refine Gs.nilsl 5 1 ?_
  refine wbyte_call (b := wb) (q := (none, 0, 0)) (l := []) 123 (.inl rfl) (.inl rfl) (by simp) ?_
  intro q1 hq1
  refine write_in ql l rfl hq1 hl1 (by omega) (by simp) ?_
  intro q2 hq2
  refine wbyte_call (b := wb) (q := q2) 124 (.inr rfl) hq2 (by simp; omega) ?_
  intro q3 hq3
  refine write_in qr r rfl hq3 hr1 (by omega) (by simp; omega) ?_
  intro q4 hq4
  refine wbyte_call (b := wb) (q := q4) 125 (.inr rfl) hq4 (by simp; omega) ?_
  intro q5 hq5
  refine bstr_call hq5 (by simp; omega) ?_
  rw [← pr_mk]
  (repeat (refine G.step ?_))
  refine Gs.loadP1 hb ?_
  refine Gs.lookup2 (ek := kS) (ev := vP) (l := s.n) (pr (.mk l r)) rfl ?_
  (repeat (refine G.step ?_))
  cases hm : mget s.n (pr (.mk l r)) with
  | some nb =>
    obtain ⟨f, hf, hnd⟩ := hs.n _ _ hm
    have := pr_inj hf
    subst this
    (repeat (refine G.ift ?_))
    rw [show lk1 vP (.pointer none) s.n (pr (.mk l r)) = ptr nb 0 by unfold lk1; rw [hm]; rfl]
    exact Bw.close (k := k) s hb hs (hk nb h1 le1 hnd)
  | none =>
    refine G.iff ?_
    (repeat (first | refine G.step ?_ | (refine Gs.box ?_; intro _)))
    rename_i nb
    refine Gs.loadP1 hb ?_
    refine Gs.mapUpdate (ek := kS) (ev := vP) (pr (.mk l r)) nb rfl rfl ?_
    refine Gs.freezeB nb ?_
    intro h2 le2 hp2
    have hnd : NdR h2 nb (.mk l r) := NdR_iff.2 ⟨ql, qr, hp2, hl1.mono le2, hr1.mono le2⟩
    refine Bw.close (k := k) ⟨mset s.n (pr (.mk l r)) nb, s.q, s.c⟩ (hb.mono le2) ⟨fun k' b' e => ?_, hs.q, (hs.mono le2).c⟩ (hk nb h2 (le1.trans le2) hnd)
    dsimp only at e
    rw [mget_mset] at e
    split at e
    · rename_i e2
      cases e
      exact ⟨_, e2, hnd⟩
    · exact (hs.mono le2).n k' b' e
end Go.Proofs.Ytnepdmnkhjpnhaa
end

section
/-
  Values: forms entered in the book.
-/
set_option linter.unusedVariables false
set_option linter.unusedSimpArgs false
set_option linter.unusedSectionVars false
set_option maxHeartbeats 8000000
namespace Go.Proofs.Ytnepdmnkhjpnhaa
open Go Go.Sk Go.Va Go.RowKit
variable {M : Go.Sk.Mode}
/-- What entering a form does. -/
def EntP [M : Go.Sk.Mode] (w0 : World) (h0 : Hp) (k : Bk) (f : Fm) : Prop := ∀ (h : Hp) (L : List Itm) (K : Value → WP) (x : FmH), FmR h x f →
  (∀ b h', Hle h h' → NdR h' b f → Gw (BQ k) w0 h0 h' L (K (ptr b 0))) → Gw (BQ k) w0 h0 h L (Do Try.prog (vCall (.func (.func 56) #[] ⟨[]⟩) [ptr k.b 0, vF x]) K)
theorem all_of {w0 : World} {h0 h : Hp} {L : List Itm} {K : Value → WP} {k : Bk} (l : List Fm) (v : SlH) (hl : RdF h (slv v) eFH 2 FmR l) (hn : l.length ≤ 200000) (hent : ∀ f ∈ l, EntP w0 h0 k f)
    (hk : ∀ (q : SlH) h', Hle h h' → RdF h' (slv q) ePt 1 NdR l → Gw (BQ k) w0 h0 h' L (K (slv q))) : Gw (BQ k) w0 h0 h L (Do Try.prog (vCall (.func (.func 71) #[] ⟨[]⟩) [ptr k.b 0, slv v]) K) := by
  refine in71 ?_
  unfold s71
  refine G.lenF hl (by omega) ?_
  refine Gw.nilsl 97 1 ?_
  refine G.lpG (β := Nat × SlH × Hp × List Nat) (fun u => (slv u.2.1, I u.1)) (fun u => OW (BQ k) w0 h0 u.2.2.1 (.sl (slv u.2.1) 97 1 (fl ePt u.2.2.2) :: L)) (fun u => u.1 ≤ l.length ∧ Hle h u.2.2.1 ∧ All2 (NdR u.2.2.1) u.2.2.2 (l.take u.1)) (fun u => l.length - u.1) (0, (none, 0, 0), h, []) rfl ⟨Nat.zero_le _, Hle.refl h, by simp; exact .nil⟩ (fun _ s => s) ?_
  rintro ⟨i, q, hh, bs⟩ ⟨hi, hle, hbs⟩ cont hc
  dsimp only at hi hle hbs hc ⊢
  have hlen : bs.length = i := by rw [hbs.len]; simp; omega
  (repeat (first | refine G.step ?_ | (refine G.jk ?_; intro _)))
  refine G.ifd ?_ ?_ <;> intro hlt
  · have hlt' : i < l.length := by omega
    have htake := List.take_succ_eq_append_getElem hlt'
    refine G.indexF (hl.mono hle) hlt' ?_
    intro b1 o1 x1 hp1 hx1
    refine G.loadE hp1 ?_
    have hmem : l[i] ∈ l := List.getElem_mem hlt'
    (repeat (first | refine G.step ?_ | (refine Gw.alloc ?_; intro _) | refine Gw.store ?_))
    refine hent _ hmem hh _ _ x1 hx1 ?_
    intro nb h2 le2 hnd
    refine Gw.push (enc := ePt) (l := bs) (a := nb) (by decide) (by decide) (by omega) (by omega) ?_
    intro s' q2
    (repeat (refine G.add (by omega) ?_))
    refine Gw.sel (L' := .sl (slv q2) 97 1 (fl ePt (bs ++ [nb])) :: L) ?_
    refine G.goE (hc (i + 1, q2, h2, bs ++ [nb]) ⟨by dsimp only; omega, hle.trans le2, ?_⟩ (by dsimp only; omega)) (by simp)
    dsimp only
    rw [htake]
    exact (hbs.monoR le2).snoc hnd
  · have hi' : i = l.length := by omega
    subst hi'
    rw [List.take_length] at hbs
    refine Gw.freezeE (enc := ePt) (v := slv q) (by decide) ?_
    intro h2 le2 hr
    exact hk q h2 (hle.trans le2) ⟨bs, hr, hbs.monoR le2⟩
theorem enter_ok (w0 : World) (h0 : Hp) (k : Bk) : ∀ (n : Nat) (f : Fm), sz f ≤ n → n ≤ 200000 → EntP w0 h0 k f := by
  intro n
  induction n with
  | zero => intro f hf; have := sz_pos f; omega
  | succ n ih =>
    intro f hf hn h L K x hx hk
    refine in56 ?_
    unfold s56
    have hl := lenL f
    have hr := lenR f
    have hsz := sz_eq f
    (repeat (first | (refine Gw.box ?_; intro _) | refine Gw.dr ?_ | refine Gw.qkb ?_ | refine G.qkp ?_))
    refine all_of f.L x.1 hx.l (by omega) (fun g hg => ih g (by have := sz_L hg; omega) (by omega)) ?_
    intro ql h1 le1 hql
    (repeat (first | refine Gw.withb ?_ | refine G.withT ?_))
    refine all_of f.R x.2 (hx.r.mono le1) (by omega) (fun g hg => ih g (by have := sz_R hg; omega) (by omega)) ?_
    intro qr h2 le2 hqr
    refine make_ok ql qr f.L f.R (hql.mono le2) hqr (by omega) ?_
    intro b h3 le3 hnd
    rw [Fm.eta] at hnd
    exact Gw.sel (hk b h3 (le1.trans (le2.trans le3)) hnd)
end Go.Proofs.Ytnepdmnkhjpnhaa
end

section
/-
  Values: an empty book; the form of a node; texts.
-/
set_option linter.unusedVariables false
set_option linter.unusedSimpArgs false
set_option linter.unusedSectionVars false
set_option maxHeartbeats 8000000
namespace Go.Proofs.Ytnepdmnkhjpnhaa
open Go Go.Sk Go.Va Go.RowKit
variable {M : Go.Sk.Mode}
theorem open_ok {w0 : World} {h0 h : Hp} {L : List Itm} {K : Value → WP} (hk : ∀ (k : Bk) h', Hle h h' → Gw (BQ k) w0 h0 h' L (K (ptr k.b 0))) : Gs w0 h0 h L (Do Try.prog (vCall (.func (.func 55) #[] ⟨[]⟩) []) K) := by
  refine in55 ?_
  unfold s55
  refine Gs.makeMap0 ?_; intro r1
  refine Gs.makeMap0 ?_; intro r2
  refine Gs.makeMap0 ?_; intro r3
  (repeat (first | refine G.step ?_ | (refine Gs.box ?_; intro _)))
  rename_i b
  refine Gs.freezeB b ?_
  intro h1 le1 hp
  refine Gs.sel (L' := .ob r1 (.map #[] 0) :: .ob r2 (.map #[] 0) :: .ob r3 (.map #[] 0) :: L) ?_
  show Gs w0 h0 h1 (.ob r1 (mO kS vP []) :: .ob r2 (mO kP vBoN []) :: .ob r3 (mO kS vP []) :: L) _
  exact Bw.close (k := ⟨b, r1, r2, r3⟩) ⟨[], [], []⟩ hp ⟨fun k b e => by simp [mget] at e, fun k b e => by simp [mget] at e, fun k b e => by simp [mget] at e⟩ (hk ⟨b, r1, r2, r3⟩ h1 le1)
end Go.Proofs.Ytnepdmnkhjpnhaa
end

section
/-
  Values: the order of two nodes, kept in the book.
-/
set_option linter.unusedVariables false
set_option linter.unusedSimpArgs false
set_option linter.unusedSectionVars false
set_option maxHeartbeats 8000000
namespace Go.Proofs.Ytnepdmnkhjpnhaa
open Go Go.Sk Go.Va Go.RowKit
variable {M : Go.Sk.Mode}
theorem Gs.qlookup2 {κ β : Type} [DecidableEq κ] {ek : κ → Value} {ev : β → Value} {P : Program} {t tk te : TypeId} {l : List (κ × β)} {r : Nat} {z : Value} {w0 : World} {h0 h : Hp} {L : List Itm} {KQ : WP → Value → WP} (k : κ) [ht : TMap P t tk te] [hkt : KeyT P tk ek] [hz : TZv P te z] [ho : Ob L r (mO ek ev l)] {key : Value} (hkey : key = ek k) (hk : Gs w0 h0 h L (KQ (ObC r (mO ek ev l)) (.tuple #[lk1 ev z l k, .bool (mget l k).isSome]))) : Gs w0 h0 h L (Qk P (V (Instr.lookup t (.map (some r)) key true)) KQ) :=
  haveI := Yd.lookup (P := P) (S := ObC r (mO ek ev l)) (t := t) (ev := ev) hkey true (fun w s => s)
  G.qk (ObC r (mO ek ev l)) (fun w s => s.obj ho.mem) hk
theorem not_any {α : Type} (p : α → Bool) (l : List α) : (!l.any p) = l.all fun x => !p x := by
  induction l with
  | nil => rfl
  | cons x l ih => simp only [List.any_cons, List.all_cons, Bool.not_or, ih]
theorem bk1 {h : Hp} {k : Bk} (hb : PtAt h k.b 0 (bkV k)) : PtAt h k.b 1 [.map (some k.r2), .map (some k.r3)] := fun j v e => by
  have := hb (1 + j) v (by rw [Nat.add_comm]; simpa using e)
  rwa [Nat.zero_add] at this
theorem bk2 {h : Hp} {k : Bk} (hb : PtAt h k.b 0 (bkV k)) : PtAt h k.b 2 [.map (some k.r3)] := fun j v e => by
  have := hb (2 + j) v (by rw [Nat.add_comm]; simpa using e)
  rwa [Nat.zero_add] at this
/-- What comparing two nodes does. -/
def MostP [M : Go.Sk.Mode] (w0 : World) (h0 : Hp) (k : Bk) (f g : Fm) : Prop := ∀ (h : Hp) (L : List Itm) (K : Value → WP) (bx b_y : Nat), NdR h bx f → NdR h b_y g →
  Gw (BQ k) w0 h0 h L (K (.bool (leq f g))) → Gw (BQ k) w0 h0 h L (Do Try.prog (vCall (.func (.func 58) #[] ⟨[]⟩) [ptr k.b 0, ptr bx 0, ptr b_y 0]) K)
section
variable {w0 : World} {h0 h : Hp} {L : List Itm} {K : Value → WP} {k : Bk}
theorem contW_in {b1 y3 b_y : Nat} (v : SlH) (l : List Fm) (g : Fm) [Blk L b1 [ptr k.b 0] 95] [Blk L y3 [ptr b_y 0] 97] (hl : RdF h (slv v) ePt 1 NdR l) (hn : l.length ≤ 200000) (hg : NdR h b_y g) (hm : ∀ z ∈ l, MostP w0 h0 k g z)
    (hk : Gw (BQ k) w0 h0 h L (K (.bool (l.any fun z => leq g z)))) : Gw (BQ k) w0 h0 h L (Do Try.prog (vCall (.func (.func 78) #[] ⟨[]⟩) [slv v, .func (.func 76) #[] ⟨[ptr b1 0, ptr y3 0]⟩]) K) := by
  refine in78 ?_
  unfold s78
  refine in86 ?_
  unfold s86
  refine sIdxG_ok (h := h) (t := 120) (e := 97) (enc := ePt) (val := fun b => ptr b 0) (fun z => leq g z) hl (by omega) (fun K x z hx hz hk => ?_) ?_
  · refine in76 ?_
    unfold s76
    (repeat (refine G.step ?_))
    exact hm z hz h _ _ b_y x hg hx hk
  · refine G.step ?_
    rw [idxOf_any]
    exact hk
theorem contB_in {b1 x2 bx : Nat} (v : SlH) (l : List Fm) (f : Fm) [Blk L b1 [ptr k.b 0] 95] [Blk L x2 [ptr bx 0] 97] (hl : RdF h (slv v) ePt 1 NdR l) (hn : l.length ≤ 200000) (hf : NdR h bx f) (hm : ∀ z ∈ l, MostP w0 h0 k z f)
    (hk : Gw (BQ k) w0 h0 h L (K (.bool (l.any fun z => leq z f)))) : Gw (BQ k) w0 h0 h L (Do Try.prog (vCall (.func (.func 78) #[] ⟨[]⟩) [slv v, .func (.func 77) #[] ⟨[ptr b1 0, ptr x2 0]⟩]) K) := by
  refine in78 ?_
  unfold s78
  refine in86 ?_
  unfold s86
  refine sIdxG_ok (h := h) (t := 120) (e := 97) (enc := ePt) (val := fun b => ptr b 0) (fun z => leq z f) hl (by omega) (fun K x z hx hz hk => ?_) ?_
  · refine in77 ?_
    unfold s77
    (repeat (refine G.step ?_))
    exact hm z hz h _ _ x bx hx hf hk
  · refine G.step ?_
    rw [idxOf_any]
    exact hk
end
theorem most_ok (w0 : World) (h0 : Hp) (k : Bk) : ∀ (n : Nat) (f g : Fm), sz f + sz g ≤ n → n ≤ 200000 → MostP w0 h0 k f g := by
  intro n
  induction n with
  | zero => intro f g hf; have := sz_pos f; omega
  | succ n ih =>
    intro f g hf hn h L K bx b_y hx hy hk
    have hl := lenL f
    have hr := lenR g
    have hle := leq_eq f g
    rw [← not_any, ← not_any] at hle
    refine in58 ?_
    unfold s58
    (repeat (first | (refine Gw.box ?_; intro _) | refine Gw.dr ?_ | refine Gw.qkb ?_ | refine G.qkp ?_))
    rename_i bb xb yb
    refine G.qld1 hx.text ?_
    (repeat (first | refine Gw.qkb ?_ | refine G.qkp ?_))
    refine G.qld1 hy.text ?_
    (repeat (first | (refine Gw.alloc ?_; intro _) | refine Gw.store ?_ | refine Gw.dr ?_ | refine Gw.qkb ?_ | refine Gw.withb ?_ | refine G.withF (Hle.refl _) ?_ | refine G.qkp ?_ | refine G.withT ?_))
    rename_i pb
    refine Bw.open ?_
    intro h1 s le1 hb hs
    refine Gs.qloadP1 (bk1 hb) ?_
    (repeat (refine Gs.qkb ?_))
    refine Gs.qlookup2 (ek := kP) (ev := vBoN) (l := s.q) (pr f, pr g) rfl ?_
    (repeat (refine G.qkp ?_))
    cases hm : mget s.q (pr f, pr g) with
    | some v =>
      obtain ⟨f', g', e1, e2⟩ := hs.q _ _ hm
      simp only [Prod.mk.injEq] at e1
      have e3 := pr_inj e1.1
      have e4 := pr_inj e1.2
      subst e3 e4 e2
      (repeat (refine G.ift ?_))
      rw [show lk1 vBoN (.bool false) s.q (pr f, pr g) = .bool (leq f g) by unfold lk1; rw [hm]; rfl]
      exact Bw.close (k := k) (L := L) s hb hs (Gw.weak le1 hk)
    | none =>
      refine G.iff ?_
      have hx1 := hx.mono le1
      have hy1 := hy.mono le1
      refine Bw.close (k := k) (L := .blk pb [Str (pr f), Str (pr g)] 137 :: .blk yb [ptr b_y 0] 97 :: .blk xb [ptr bx 0] 97 :: .blk bb [ptr k.b 0] 95 :: L) s hb hs ?_
      refine G.jnP (fun j => j = .bool (leq f g)) ?_ ?_
      · rintro _ rfl
        refine G.jk ?_; intro _
        refine Gw.dr ?_
        refine Bw.open ?_
        intro h2 s2 le2 hb2 hs2
        (repeat (first | refine G.qkp ?_ | refine Gs.qkb ?_))
        refine Gs.qloadP1 (bk1 hb2) ?_
        (repeat (refine Gs.qkb ?_))
        refine Gs.mapUpdate (ek := kP) (ev := vBoN) (pr f, pr g) (leq f g) rfl rfl ?_
        refine Bw.close (k := k) (L := L) ⟨s2.n, mset s2.q (pr f, pr g) (leq f g), s2.c⟩ hb2 ⟨hs2.n, fun k' v e => ?_, hs2.c⟩ (Gw.weak (le1.trans le2) hk)
        dsimp only at e
        rw [mget_mset] at e
        split at e
        · rename_i e2
          cases e
          exact ⟨f, g, e2, rfl⟩
        · exact hs2.q k' v e
      · intro K2 hK2
        obtain ⟨ql, hpl, hql⟩ := hx1.l
        obtain ⟨qr, hpr, hqr⟩ := hy1.r
        (repeat (refine G.step ?_))
        refine G.ld1 hpl ?_
        refine contW_in (b1 := bb) (y3 := yb) ql f.L g hql (by omega) hy1 (fun z hz => ih g z (by have := sz_L hz; omega) (by omega)) ?_
        (repeat (refine G.step ?_))
        refine G.gdbt ?_ ?_ <;> intro c1
        · (repeat (refine G.step ?_))
          refine G.ld1 hpr ?_
          refine contB_in (b1 := bb) (x2 := xb) qr g.R f hqr (by omega) hx1 (fun z hz => ih z f (by have := sz_R hz; omega) (by omega)) ?_
          (repeat (refine G.step ?_))
          refine hK2 _ ?_
          rw [hle, c1, Bool.true_and]
        · refine hK2 _ ?_
          rw [hle, c1, Bool.false_and]
end Go.Proofs.Ytnepdmnkhjpnhaa
end

section
/-
  Fractions: validity, comparisons, floors.
-/
set_option linter.unusedVariables false
set_option linter.unusedSimpArgs false
set_option linter.unusedSectionVars false
set_option maxHeartbeats 8000000
namespace Go.Proofs.Ytnepdmnkhjpnhaa.Q
open Go Go.Sk Go.Dy
variable {M : Go.Sk.Mode}
abbrev Fr2 (n e : Int) : Value := .agg #[I n, I e]
abbrev Got (g : Int × Int × Int) : Value := .agg #[I g.1, I g.2.1, I g.2.2]
abbrev Two (g : Int × Int × Int) : Value := .tuple #[.agg #[I g.1, I g.2.1], I g.2.2]
theorem valid_ok (n e : Int) (h : Hp) : Ct Try.prog 53 [Fr2 n e] h (fun _ v => v = .bool (validB n e)) := by
  refine ct53 ?_
  intro w0
  unfold s53
  ((repeat (first | refine G.step ?_ | (refine Gs.box ?_; intro _))); repeat (any_goals ((first | (refine G.ifd ?_ ?_ <;> intro _) | (refine G.ifb ?_ ?_ <;> intro _) | (refine G.gddt ?_ ?_ <;> intro _) | (refine G.gddf ?_ ?_ <;> intro _) | (refine G.gdbt ?_ ?_ <;> intro _) | (refine G.gdbf ?_ ?_ <;> intro _)) <;> (try (exfalso; omega; done)) <;> (repeat (refine G.step ?_)))))
  case refine_1.refine_1.refine_1.refine_1.refine_2 =>
    refine G.land 1 (by decide) (by decide) ?_
    (repeat (refine G.step ?_))
    refine Gs.ret ?_
    unfold validB
    congr 1
    simp [*]
  all_goals
    refine Gs.ret ?_
    unfold validB
    congr 1
    simp [*]
theorem isNaN_ok (a : Int) (h : Hp) : Ct Try.prog 97 [I a] h (fun _ v => v = .bool false) := by
  refine ct97 ?_
  intro w0
  unfold s97
  (repeat (refine G.step ?_))
  exact Gs.ret (by simp)
theorem cmp_ok (a b : Int) (h : Hp) : Ct Try.prog 83 [I a, I b] h (fun _ v => v = I (cmpI a b)) := by
  refine ct83 ?_
  intro w0
  unfold s83
  refine Gs.callv0 (isNaN_ok a h) ?_
  refine Gs.callv0 (isNaN_ok b h) ?_
  ((repeat (first | refine G.step ?_ | refine G.iff ?_)); repeat (any_goals ((first | (refine G.ifd ?_ ?_ <;> intro _) | (refine G.ifb ?_ ?_ <;> intro _) | (refine G.gddt ?_ ?_ <;> intro _) | (refine G.gddf ?_ ?_ <;> intro _) | (refine G.gdbt ?_ ?_ <;> intro _) | (refine G.gdbf ?_ ?_ <;> intro _)) <;> (try (exfalso; omega; done)) <;> (repeat (refine G.step ?_)))))
  all_goals
    refine Gs.ret ?_
    unfold cmpI
    congr 1
    split <;> (try split) <;> omega
def orL : List Int → Int
  | [] => 0
  | a :: r => if a ≠ 0 then a else orL r
theorem or_ok (l : List Int) (v : Value) (h : Hp) (hl : l.length ≤ 1000) (hr : Rd h v 1 l.length (l.map I)) : Ct Try.prog 82 [v] h (fun _ r => r = I (orL l)) := by
  refine ct82 ?_
  intro w0
  unfold s82
  refine Gs.len hr (by omega) ?_
  refine Gs.lp (β := Nat) (fun k => I k) (fun _ => h) (fun _ => []) (fun k => k ≤ l.length ∧ orL (l.drop k) = orL l) (fun k => l.length - k) 0 rfl ⟨Nat.zero_le _, rfl⟩ (fun _ h => h) ?_
  rintro k ⟨hk, ho⟩ cont hc
  (repeat (first | refine G.step ?_ | (refine G.jk ?_; intro _)))
  refine G.ifd ?_ ?_ <;> intro hlt
  · have hlt : k < l.length := by omega
    refine Gs.index hr ⟨by omega, by omega⟩ ?_
    intro b o hp
    have hch : chunk (l.map I) 1 (k : Int).toNat = [I l[k]] := by
      unfold chunk
      rw [Int.toNat_natCast, Nat.mul_one, ← List.map_drop, List.drop_eq_getElem_cons hlt]; rfl
    rw [hch] at hp
    refine Gs.loadP1 hp ?_
    rw [List.drop_eq_getElem_cons hlt] at ho
    replace ho : (if l[k] ≠ 0 then l[k] else orL (l.drop (k + 1))) = orL l := ho
    ((repeat (refine G.step ?_)); repeat (any_goals ((first | (refine G.ifd ?_ ?_ <;> intro _) | (refine G.ifb ?_ ?_ <;> intro _) | (refine G.gddt ?_ ?_ <;> intro _) | (refine G.gddf ?_ ?_ <;> intro _) | (refine G.gdbt ?_ ?_ <;> intro _) | (refine G.gdbf ?_ ?_ <;> intro _)) <;> (try (exfalso; omega; done)) <;> (repeat (refine G.add (by omega) ?_)))))
    · refine Gs.ret ?_
      rw [← ho, if_pos (by assumption)]
    · refine Gs.go (hc (k + 1) ⟨by omega, ?_⟩ (by omega)) rfl
      rw [← ho, if_neg (by assumption)]
  · refine Gs.ret ?_
    rw [← ho, List.drop_eq_nil_of_le (by omega)]; rfl
def flP (n : Int) (e x : Nat) : Int :=
  if x ≤ e then n / 2 ^ (e - x) else if 1099511627776 / 2 ^ (x - e) < n then 1099511627777 else if n < -(1099511627776 / 2 ^ (x - e)) then -1099511627778 else n * 2 ^ (x - e)
theorem floor0 (n : Int) (e : Nat) : flP n e 0 = wh n e := by unfold flP wh; rw [if_pos (Nat.zero_le _)]; rfl
end Go.Proofs.Ytnepdmnkhjpnhaa.Q
end

section
/-
  Values: sizes, the order, canonical forms, negatives, sums.
-/
set_option linter.unusedVariables false
set_option linter.unusedSimpArgs false
set_option linter.unusedSectionVars false
set_option maxHeartbeats 8000000
namespace Go.Proofs.Ytnepdmnkhjpnhaa
open Go Go.Sk Go.Va Go.RowKit
variable {M : Go.Sk.Mode}
theorem szs_take (l : List Fm) (i : Nat) (hi : i < l.length) : szs (l.take (i + 1)) = szs (l.take i) + sz l[i] := by
  rw [List.take_succ_eq_append_getElem hi, szs_app]; simp [szs]
theorem szs_take_le (l : List Fm) (i : Nat) : szs (l.take i) ≤ szs l := szs_sublist (List.take_sublist i l)
theorem winner_ok (f : Fm) (x : FmH) (i : Int) (h : Hp) (hx : FmR h x f) (hn : sz f ≤ 150000) : Ct Try.prog 29 [vF x, I i] h (fun _ v => v = I (if i = 0 then (if leq f Va.zero then 1 else 0) else (if leq Va.zero f then 0 else 1))) := by
  refine ct29 ?_
  intro w0
  unfold s29
  (repeat (refine Gs.box ?_; intro _))
  refine open_ok ?_
  intro k h1 le1
  (repeat (refine G.step ?_))
  refine enter_ok w0 h k (sz f) f (Nat.le_refl _) (by omega) h1 _ _ x (hx.mono le1) ?_
  intro b1 h2 le2 hb1
  have hz : sz Va.zero = 1 := rfl
  refine make_ok (none, 0, 0) (none, 0, 0) [] [] (RdF.nil _ _ _ _) (RdF.nil _ _ _ _) (by simp [szs]) ?_
  intro b2 h3 le3 hb2
  have hb1 := hb1.mono le3
  refine G.jnP (fun j => j = .bool (if i = 0 then !leq f Va.zero else leq Va.zero f)) ?_ ?_
  · rintro _ rfl
    refine G.jk ?_; intro _
    refine G.ifb ?_ ?_ <;> intro c
    · refine Gw.ret fun h' _ => ?_
      congr 1
      split <;> rename_i hi
      · rw [if_pos hi] at c; rw [if_neg (by simpa using c)]
      · rw [if_neg hi] at c; rw [if_pos c]
    · refine Gw.ret fun h' _ => ?_
      congr 1
      split <;> rename_i hi
      · rw [if_pos hi] at c; rw [if_pos (by simpa using c)]
      · rw [if_neg hi] at c; rw [if_neg (by rw [c]; simp)]
  · intro K2 hK2
    refine G.step ?_
    refine G.gddt ?_ ?_ <;> intro c1
    · refine most_ok w0 h k _ f Va.zero (Nat.le_refl _) (by omega) h3 _ _ b1 b2 hb1 hb2 ?_
      refine G.step ?_
      rw [if_pos c1] at hK2
      refine G.gdbf ?_ ?_ <;> intro c2
      · exact hK2 _ (by rw [c2])
      · refine G.step ?_
        refine G.gddt ?_ ?_ <;> intro c3
        · exact absurd c1 c3
        · exact hK2 _ (by rw [c2])
    · rw [if_neg c1] at hK2
      refine G.step ?_
      refine G.gddt ?_ ?_ <;> intro c3
      · refine most_ok w0 h k _ Va.zero f (Nat.le_refl _) (by omega) h3 _ _ b2 b1 hb2 hb1 ?_
        exact hK2 _ rfl
      · exact absurd c1 (by simpa using c3)
end Go.Proofs.Ytnepdmnkhjpnhaa
end

section
/-
  Values: negatives, sums, texts of the reference, who wins by playing all lines.
-/
set_option linter.unusedVariables false
set_option linter.unusedSimpArgs false
set_option linter.unusedSectionVars false
set_option maxHeartbeats 8000000
namespace Go.Proofs.Ytnepdmnkhjpnhaa
open Go Go.Sk Go.Va Go.RowKit
variable {M : Go.Sk.Mode}
def NegOk [M : Go.Sk.Mode] (FN : FuncId) (f : Fm) : Prop := ∀ (h : Hp) (x : FmH), FmR h x f → Ct Try.prog FN [vF x] h (fun h' v => ∃ y : FmH, v = vF y ∧ FmR h' y (neg f))
def AddOk [M : Go.Sk.Mode] (FN : FuncId) (f g : Fm) : Prop := ∀ (h : Hp) (x y : FmH), FmR h x f → FmR h y g → Ct Try.prog FN [vF x, vF y] h (fun h' v => ∃ z : FmH, v = vF z ∧ FmR h' z (add f g))
theorem add_ok : ∀ (n : Nat) (f g : Fm), sz f + sz g ≤ n → n ≤ 200000 → AddOk (M := M) 30 f g := by
  intro n
  induction n with
  | zero => intro f g hf; have := sz_pos f; omega
  | succ n ih =>
    intro f g hf hn h x y hx hy
    have hl := lenL f
    have hr := lenR f
    have hl2 := lenL g
    have hr2 := lenR g
    refine ct30 ?_
    intro w0
    unfold s30
    (repeat (first | refine G.step ?_ | (refine Gs.box ?_; intro _) | (refine Gs.alloc ?_; intro _)))
    rename_i ab bb rb fb
    refine Gs.lenF hx.l (by omega) ?_
    refine Gs.nilsl 61 2 ?_
    refine Gs.lp (β := Nat × SlH × Hp × List FmH) (fun u => I u.1) (fun u => u.2.2.1) (fun u => [.sl (slv u.2.1) 61 2 (fl eFH u.2.2.2), .blk fb [slv u.2.1, .slice none 0 0] 61, .blk rb [.slice none 0 0, .slice none 0 0] 61, .blk bb [slv y.1, slv y.2] 61, .blk ab [slv x.1, slv x.2] 61]) (fun u => u.1 ≤ f.L.length ∧ Hle h u.2.2.1 ∧ All2 (FmR u.2.2.1) u.2.2.2 ([] ++ (f.L.take u.1).map (add · g))) (fun u => f.L.length - u.1) (0, (none, 0, 0), h, []) rfl ⟨Nat.zero_le _, Hle.refl h, by simp; exact .nil⟩ (fun _ s => s) ?_
    rintro ⟨i, q0, hh0, xs0⟩ ⟨hi, hle0, hxs0⟩ cont hc
    dsimp only at hi hle0 hxs0 hc ⊢
    have hlen : xs0.length = i := by rw [hxs0.len]; simp; omega
    (repeat (first | refine G.step ?_ | (refine G.jk ?_; intro _)))
    refine G.ifd ?_ ?_ <;> intro hlt
    · have hlt' : i < f.L.length := by omega
      have htake := List.take_succ_eq_append_getElem hlt'
      refine Gs.indexF (hx.l.mono hle0) hlt' ?_
      intro b1 o1 x1 hpx hx1
      refine Gs.loadE hpx ?_
      have hmem : f.L[i] ∈ f.L := List.getElem_mem hlt'
      (repeat (first | (refine Gs.alloc ?_; intro _) | refine Gs.store ?_ | refine Gs.dr ?_ | refine G.qkp ?_ | refine Gs.qkb ?_))
      refine Gs.call0 (ih _ g (by have := sz_L hmem; omega) (by omega) hh0 x1 y hx1 (hy.mono hle0)) ?_
      rintro _ h2 le2 ⟨z, rfl, hz⟩
      (repeat (first | refine G.withT ?_ | refine Gs.withb ?_))
      refine Gs.buildSlice (out := eFH z) (by decide) ?_
      intro eb
      (repeat (first | refine G.withT ?_ | refine Gs.withb ?_))
      refine Gs.appendO (enc := eFH) (l := xs0) (m := [z]) (e2 := 61) (by simp [fl]) (by simp; omega) (by simp; omega) ?_
      intro v'
      refine Gs.slH (v := v') ?_
      rintro q2 rfl
      (repeat (first | refine G.add (by omega) ?_ | refine Gs.store ?_ | refine G.qkp ?_))
      refine Gs.goS (hc (i + 1, q2, h2, xs0 ++ [z]) ⟨by dsimp only; omega, hle0.trans le2, ?_⟩ (by dsimp only; omega)) (by simp)
      dsimp only
      rw [htake, List.map_append, ← List.append_assoc]
      exact (hxs0.monoR le2).snoc hz
    · have hi' : i = f.L.length := by omega
      subst hi'
      rw [List.take_length] at hxs0
      clear hc cont hlt hi hlen
      (repeat (refine G.step ?_))
      refine Gs.lenF (hy.l.mono hle0) (by omega) ?_
      rw [List.nil_append] at hxs0
      have hle := hle0
      have hxs := hxs0
      generalize hh0 = hh at *
      generalize xs0 = xs at *
      generalize q0 = q at *
      clear hle0 hxs0
      refine Gs.lp (β := Nat × SlH × Hp × List FmH) (fun u => I u.1) (fun u => u.2.2.1) (fun u => [.sl (slv u.2.1) 61 2 (fl eFH u.2.2.2), .blk fb [slv u.2.1, .slice none 0 0] 61, .blk rb [.slice none 0 0, .slice none 0 0] 61, .blk bb [slv y.1, slv y.2] 61, .blk ab [slv x.1, slv x.2] 61]) (fun u => u.1 ≤ g.L.length ∧ Hle hh u.2.2.1 ∧ All2 (FmR u.2.2.1) u.2.2.2 ((f.L.map (add · g)) ++ (g.L.take u.1).map (add f ·))) (fun u => g.L.length - u.1) (0, q, hh, xs) rfl ⟨Nat.zero_le _, Hle.refl hh, by simpa using hxs⟩ (fun _ s => s) ?_
      rintro ⟨i, q1, hh1, xs1⟩ ⟨hi, hle1, hxs1⟩ cont hc
      dsimp only at hi hle1 hxs1 hc ⊢
      have hlen : xs1.length = f.L.length + i := by rw [hxs1.len]; simp; omega
      (repeat (first | refine G.step ?_ | (refine G.jk ?_; intro _)))
      refine G.ifd ?_ ?_ <;> intro hlt
      · have hlt' : i < g.L.length := by omega
        have htake := List.take_succ_eq_append_getElem hlt'
        refine Gs.indexF (hy.l.mono (hle.trans hle1)) hlt' ?_
        intro b1 o1 x1 hpx hx1
        refine Gs.loadE hpx ?_
        have hmem : g.L[i] ∈ g.L := List.getElem_mem hlt'
        (repeat (first | (refine Gs.alloc ?_; intro _) | refine Gs.store ?_ | refine Gs.dr ?_ | refine G.qkp ?_ | refine Gs.qkb ?_))
        refine Gs.call0 (ih f _ (by have := sz_L hmem; omega) (by omega) hh1 x x1 (hx.mono (hle.trans hle1)) hx1) ?_
        rintro _ h2 le2 ⟨z, rfl, hz⟩
        (repeat (first | refine G.withT ?_ | refine Gs.withb ?_))
        refine Gs.buildSlice (out := eFH z) (by decide) ?_
        intro eb
        (repeat (first | refine G.withT ?_ | refine Gs.withb ?_))
        refine Gs.appendO (enc := eFH) (l := xs1) (m := [z]) (e2 := 61) (by simp [fl]) (by simp; omega) (by simp; omega) ?_
        intro v'
        refine Gs.slH (v := v') ?_
        rintro q2 rfl
        (repeat (first | refine G.add (by omega) ?_ | refine Gs.store ?_ | refine G.qkp ?_))
        refine Gs.goS (hc (i + 1, q2, h2, xs1 ++ [z]) ⟨by dsimp only; omega, hle1.trans le2, ?_⟩ (by dsimp only; omega)) (by simp)
        dsimp only
        rw [htake, List.map_append, ← List.append_assoc]
        exact (hxs1.monoR le2).snoc hz
      · have hi' : i = g.L.length := by omega
        subst hi'
        rw [List.take_length] at hxs1
        clear hc cont hlt hi hlen
        refine Gs.freezeE (enc := eFH) (v := slv q1) (by decide) ?_
        intro h1 le1 hfr
        have hL : RdF h1 (slv q1) eFH 2 FmR (add f g).L := ⟨xs1, hfr, by rw [add_L]; exact hxs1.monoR le1⟩
        replace hle1 : Hle h h1 := hle.trans (hle1.trans le1)
        generalize q1 = qL at *
        clear hxs hxs1 hfr
        (repeat (refine G.step ?_))
        refine Gs.lenF (hx.r.mono hle1) (by omega) ?_
        refine Gs.nilsl 61 2 ?_
        refine Gs.lp (β := Nat × SlH × Hp × List FmH) (fun u => I u.1) (fun u => u.2.2.1) (fun u => [.sl (slv u.2.1) 61 2 (fl eFH u.2.2.2), .blk fb [slv qL, slv u.2.1] 61, .blk rb [.slice none 0 0, .slice none 0 0] 61, .blk bb [slv y.1, slv y.2] 61, .blk ab [slv x.1, slv x.2] 61]) (fun u => u.1 ≤ f.R.length ∧ Hle h1 u.2.2.1 ∧ All2 (FmR u.2.2.1) u.2.2.2 ([] ++ (f.R.take u.1).map (add · g))) (fun u => f.R.length - u.1) (0, (none, 0, 0), h1, []) rfl ⟨Nat.zero_le _, Hle.refl h1, by simp; exact .nil⟩ (fun _ s => s) ?_
        rintro ⟨i, q2, hh2, xs2⟩ ⟨hi, hle2, hxs2⟩ cont hc
        dsimp only at hi hle2 hxs2 hc ⊢
        have hlen : xs2.length = i := by rw [hxs2.len]; simp; omega
        (repeat (first | refine G.step ?_ | (refine G.jk ?_; intro _)))
        refine G.ifd ?_ ?_ <;> intro hlt
        · have hlt' : i < f.R.length := by omega
          have htake := List.take_succ_eq_append_getElem hlt'
          refine Gs.indexF (hx.r.mono (hle1.trans hle2)) hlt' ?_
          intro b1 o1 x1 hpx hx1
          refine Gs.loadE hpx ?_
          have hmem : f.R[i] ∈ f.R := List.getElem_mem hlt'
          (repeat (first | (refine Gs.alloc ?_; intro _) | refine Gs.store ?_ | refine Gs.dr ?_ | refine G.qkp ?_ | refine Gs.qkb ?_))
          refine Gs.call0 (ih _ g (by have := sz_R hmem; omega) (by omega) hh2 x1 y hx1 (hy.mono (hle1.trans hle2))) ?_
          rintro _ h2 le2 ⟨z, rfl, hz⟩
          (repeat (first | refine G.withT ?_ | refine Gs.withb ?_))
          refine Gs.buildSlice (out := eFH z) (by decide) ?_
          intro eb
          (repeat (first | refine G.withT ?_ | refine Gs.withb ?_))
          refine Gs.appendO (enc := eFH) (l := xs2) (m := [z]) (e2 := 61) (by simp [fl]) (by simp; omega) (by simp; omega) ?_
          intro v'
          refine Gs.slH (v := v') ?_
          rintro q2 rfl
          (repeat (first | refine G.add (by omega) ?_ | refine Gs.store ?_ | refine G.qkp ?_))
          refine Gs.goS (hc (i + 1, q2, h2, xs2 ++ [z]) ⟨by dsimp only; omega, hle2.trans le2, ?_⟩ (by dsimp only; omega)) (by simp)
          dsimp only
          rw [htake, List.map_append, ← List.append_assoc]
          exact (hxs2.monoR le2).snoc hz
        · have hi' : i = f.R.length := by omega
          subst hi'
          rw [List.take_length] at hxs2
          clear hc cont hlt hi hlen
          (repeat (refine G.step ?_))
          refine Gs.lenF (hy.r.mono (hle1.trans hle2)) (by omega) ?_
          rw [List.nil_append] at hxs2
          have hxs := hxs2
          generalize hh2 = hh at *
          generalize xs2 = xs at *
          generalize q2 = q at *
          clear hxs2
          refine Gs.lp (β := Nat × SlH × Hp × List FmH) (fun u => I u.1) (fun u => u.2.2.1) (fun u => [.sl (slv u.2.1) 61 2 (fl eFH u.2.2.2), .blk fb [slv qL, slv u.2.1] 61, .blk rb [.slice none 0 0, .slice none 0 0] 61, .blk bb [slv y.1, slv y.2] 61, .blk ab [slv x.1, slv x.2] 61]) (fun u => u.1 ≤ g.R.length ∧ Hle hh u.2.2.1 ∧ All2 (FmR u.2.2.1) u.2.2.2 ((f.R.map (add · g)) ++ (g.R.take u.1).map (add f ·))) (fun u => g.R.length - u.1) (0, q, hh, xs) rfl ⟨Nat.zero_le _, Hle.refl hh, by simpa using hxs⟩ (fun _ s => s) ?_
          rintro ⟨i, q3, hh3, xs3⟩ ⟨hi, hle3, hxs3⟩ cont hc
          dsimp only at hi hle3 hxs3 hc ⊢
          have hlen : xs3.length = f.R.length + i := by rw [hxs3.len]; simp; omega
          (repeat (first | refine G.step ?_ | (refine G.jk ?_; intro _)))
          refine G.ifd ?_ ?_ <;> intro hlt
          · have hlt' : i < g.R.length := by omega
            have htake := List.take_succ_eq_append_getElem hlt'
            refine Gs.indexF (hy.r.mono (hle1.trans (hle2.trans hle3))) hlt' ?_
            intro b1 o1 x1 hpx hx1
            refine Gs.loadE hpx ?_
            have hmem : g.R[i] ∈ g.R := List.getElem_mem hlt'
            (repeat (first | (refine Gs.alloc ?_; intro _) | refine Gs.store ?_ | refine Gs.dr ?_ | refine G.qkp ?_ | refine Gs.qkb ?_))
            refine Gs.call0 (ih f _ (by have := sz_R hmem; omega) (by omega) hh3 x x1 (hx.mono (hle1.trans (hle2.trans hle3))) hx1) ?_
            rintro _ h2 le2 ⟨z, rfl, hz⟩
            (repeat (first | refine G.withT ?_ | refine Gs.withb ?_))
            refine Gs.buildSlice (out := eFH z) (by decide) ?_
            intro eb
            (repeat (first | refine G.withT ?_ | refine Gs.withb ?_))
            refine Gs.appendO (enc := eFH) (l := xs3) (m := [z]) (e2 := 61) (by simp [fl]) (by simp; omega) (by simp; omega) ?_
            intro v'
            refine Gs.slH (v := v') ?_
            rintro q2 rfl
            (repeat (first | refine G.add (by omega) ?_ | refine Gs.store ?_ | refine G.qkp ?_))
            refine Gs.goS (hc (i + 1, q2, h2, xs3 ++ [z]) ⟨by dsimp only; omega, hle3.trans le2, ?_⟩ (by dsimp only; omega)) (by simp)
            dsimp only
            rw [htake, List.map_append, ← List.append_assoc]
            exact (hxs3.monoR le2).snoc hz
          · have hi' : i = g.R.length := by omega
            subst hi'
            rw [List.take_length] at hxs3
            clear hc cont hlt hi hlen
            refine Gs.freezeE (enc := eFH) (v := slv q3) (by decide) ?_
            intro h5 le5 hfr5
            (repeat (first | refine G.step ?_ | refine Gs.store ?_ | refine G.retc ?_))
            exact Gs.ret ⟨(qL, q3), rfl, FmR_iff.2 ⟨hL.mono (hle2.trans (hle3.trans le5)), ⟨xs3, hfr5, by rw [add_R]; exact hxs3.monoR le5⟩⟩⟩
/-- Who begins wins: Left a form that is not at most zero, Right one that is not at least zero. -/
def winF (f : Fm) (i : Int) : Bool := if i = 0 then !leq f Va.zero else !leq Va.zero f
theorem winF_eq (f : Fm) (i : Int) (hi : i = 0 ∨ i = 1) : winF f i = (if i ≠ 0 then f.R else f.L).any fun o => !winF o (1 - i) := by
  unfold winF
  rcases hi with rfl | rfl
  · rw [if_pos rfl, if_neg (by decide), leq_eq f Va.zero]
    show (!(_ && List.all [] _)) = _
    rw [List.all_nil, Bool.and_true, ← not_any, Bool.not_not]
    simp
  · rw [if_neg (by decide), if_pos (by decide), leq_eq Va.zero f]
    show (!(List.all [] _ && _)) = _
    rw [List.all_nil, Bool.true_and, ← not_any, Bool.not_not]
    simp
end Go.Proofs.Ytnepdmnkhjpnhaa
end

section
/-
  Values: the form of a number, its size.
-/
set_option linter.unusedVariables false
set_option linter.unusedSimpArgs false
set_option linter.unusedSectionVars false
set_option maxHeartbeats 8000000
namespace Go.Proofs.Ytnepdmnkhjpnhaa
open Go Go.Sk Go.Va Go.RowKit
open Go.Dy (strip Valid val btw validB)
variable {M : Go.Sk.Mode}
abbrev Fr2 (n e : Int) : Value := .agg #[I n, I e]
theorem strip_step (x : Nat) (m : Int) (hx : 0 < x) (hm : m % 2 = 0) : strip x m = strip (x - 1) (m / 2) := by
  obtain ⟨y, rfl⟩ : ∃ y, x = y + 1 := ⟨x - 1, by omega⟩
  conv => lhs; unfold strip
  rw [if_pos hm]
  rfl
theorem lowest_ok (n : Int) (e : Nat) (h : Hp) (hn : -4611686018427387904 ≤ n ∧ n ≤ 4611686018427387904) (he : e ≤ 1000) : Ct Try.prog 84 [I n, I e] h (fun _ v => v = Fr2 (strip e n).1 (strip e n).2) := by
  refine ct84 ?_
  intro w0
  unfold s84
  (repeat (refine Gs.alloc ?_; intro _))
  rename_i rb
  refine Gs.lp (β := Int × Nat) (fun b => (I b.1, I b.2)) (fun _ => h) (fun _ => [.blk rb [I 0, I 0] 65]) (fun b => strip b.2 b.1 = strip e n ∧ b.2 ≤ 1000 ∧ -4611686018427387904 ≤ b.1 ∧ b.1 ≤ 4611686018427387904) (fun b => b.2) (n, e) rfl ⟨rfl, he, hn.1, hn.2⟩ (fun _ s => s) ?_
  rintro ⟨m, x⟩ ⟨hs, hx, hm, hm'⟩ cont hc
  dsimp only at hs hx hm hm' hc ⊢
  refine G.jk ?_; intro _
  refine G.jnP (fun j => j = .bool (decide (0 < x ∧ m % 2 = 0))) ?_ ?_
  · rintro _ rfl
    refine G.jk ?_; intro _
    refine G.ifd ?_ ?_ <;> intro hgo
    · (repeat (first | refine G.sub (by omega) ?_ | refine G.quo (by omega) (by omega) ?_))
      refine Gs.go (hc (m / 2, x - 1) ⟨by rw [← hs]; exact (strip_step x m hgo.1 hgo.2).symm, by dsimp only; omega, by dsimp only; omega, by dsimp only; omega⟩ (by dsimp only; omega)) ?_
      dsimp only
      rw [Go.Dy.tdiv2 m hgo.2]
      congr 2
      omega
    · have hf : strip x m = (m, x) := Go.Dy.strip_of_odd x m (by omega)
      (repeat (first | refine G.step ?_ | refine Gs.store ?_ | refine G.retc ?_))
      exact Gs.ret (by rw [← hs, hf])
  · intro K hK
    (repeat (refine G.step ?_))
    refine G.gddt ?_ ?_ <;> intro c1
    · (repeat (first | refine G.rem (by omega) ?_ | refine G.step ?_))
      refine hK _ ?_
      congr 1
      rw [decide_eq_decide, Go.Dy.tmod2]
      omega
    · exact hK _ (by rw [decide_eq_false]; omega)
/-! ### The options of a number's form -/
abbrev eFr : Int × Nat → List Value := fun x => [I x.1, I x.2]
instance encFr : Enc eFr 2 := ⟨fun _ => rfl, fun a v h => by
  simp only [eFr, List.mem_cons, List.not_mem_nil, or_false] at h
  rcases h with rfl | rfl <;> rfl⟩
instance ldFr : LdE Try.prog 65 eFr (fun x => Fr2 x.1 x.2) := LdE.agg
def plN (n : Int) (e : Nat) : List (Int × Nat) := if 0 < e then [strip e (n - 1)] else if 0 < n then [(n - 1, 0)] else []
def prN (n : Int) (e : Nat) : List (Int × Nat) := if 0 < e then [strip e (n + 1)] else if n < 0 then [(n + 1, 0)] else []
theorem parents_ok (n : Int) (e : Nat) (h : Hp) (hn : -1099511627776 ≤ n ∧ n ≤ 1099511627776) (he : e ≤ 30) : Ct Try.prog 70 [Fr2 n e] h (fun h' v => ∃ ql qr : SlH, v = .tuple #[slv ql, slv qr] ∧ RdE h' (slv ql) eFr 2 (plN n e) ∧ RdE h' (slv qr) eFr 2 (prN n e)) := by
  refine ct70 ?_
  intro w0
  unfold s70
  (repeat (first | refine G.step ?_ | (refine Gs.box ?_; intro _)))
  refine G.ifd ?_ ?_ <;> intro h0
  · have h0 : 0 < e := by omega
    have e1 : plN n e = [strip e (n - 1)] := by unfold plN; rw [if_pos h0]
    have e2 : prN n e = [strip e (n + 1)] := by unfold prN; rw [if_pos h0]
    rw [e1, e2]
    have k1 := fun h => lowest_ok (M := M) (n - 1) e h (by omega) (by omega)
    have k2 := fun h => lowest_ok (M := M) (n + 1) e h (by omega) (by omega)
    generalize strip e (n - 1) = a at *
    generalize strip e (n + 1) = b at *
    (repeat (first | refine Gs.dr ?_ | refine G.qadd (by omega) ?_ | refine G.qsub (by omega) ?_ | refine G.qkp ?_ | refine Gs.qkb ?_))
    refine Gs.callv0 (k1 h) ?_
    (repeat (first | refine G.withT ?_ | refine Gs.withb ?_))
    have fin : ∀ (L : List Itm) (b1 b2 : Nat) (K : Value → WP), (∀ h', Hle h h' → RdE h' (slv (some ⟨b1, 0, none⟩, 1, 1)) eFr 2 [a] → RdE h' (slv (some ⟨b2, 0, none⟩, 1, 1)) eFr 2 [b] → Gs w0 h h' L (K (.tuple #[slv (some ⟨b1, 0, none⟩, 1, 1), slv (some ⟨b2, 0, none⟩, 1, 1)]))) →
        Gs w0 h h (.sl (.slice (some ⟨b1, 0, none⟩) 1 1) 65 2 [I a.1, I a.2] :: .sl (.slice (some ⟨b2, 0, none⟩) 1 1) 65 2 [I b.1, I b.2] :: L) (K (.tuple #[.slice (some ⟨b1, 0, none⟩) 1 1, .slice (some ⟨b2, 0, none⟩) 1 1])) := by
      intro L b1 b2 K hK
      refine Gs.freezeE (enc := eFr) (v := .slice (some ⟨b1, 0, none⟩) 1 1) (l := [a]) (by decide) ?_
      intro h1 le1 r1
      refine Gs.freezeE (enc := eFr) (v := .slice (some ⟨b2, 0, none⟩) 1 1) (l := [b]) (by decide) ?_
      intro h2 le2 r2
      exact hK h2 (le1.trans le2) (r1.mono le2) r2
    refine G.or2 ?_ ?_
    · refine Gs.buildSlice (out := [I a.1, I a.2]) (by decide) ?_
      intro b1
      (repeat (first | refine G.withT ?_ | refine Gs.withb ?_))
      refine Gs.callv0 (k2 h) ?_
      refine Gs.buildSlice (out := [I b.1, I b.2]) (by decide) ?_
      intro b2
      refine Gs.perm (.swap _ _ _) (fin _ b1 b2 _ fun h' _ r1 r2 => Gs.ret ⟨_, _, rfl, r1, r2⟩)
    · refine Gs.callv0 (k2 h) ?_
      refine G.or2 ?_ ?_
      · refine Gs.buildSlice (out := [I a.1, I a.2]) (by decide) ?_
        intro b1
        (repeat (first | refine G.withT ?_ | refine Gs.withb ?_))
        refine Gs.buildSlice (out := [I b.1, I b.2]) (by decide) ?_
        intro b2
        refine Gs.perm (.swap _ _ _) (fin _ b1 b2 _ fun h' _ r1 r2 => Gs.ret ⟨_, _, rfl, r1, r2⟩)
      · refine Gs.buildSlice (out := [I b.1, I b.2]) (by decide) ?_
        intro b2
        refine Gs.buildSlice (out := [I a.1, I a.2]) (by decide) ?_
        intro b1
        (repeat (first | refine G.withT ?_ | refine Gs.withb ?_))
        exact fin _ b1 b2 _ fun h' _ r1 r2 => Gs.ret ⟨_, _, rfl, r1, r2⟩
  · have he0 : e = 0 := by omega
    subst he0
    (repeat (refine G.step ?_))
    refine G.ifd ?_ ?_ <;> intro h1
    · (repeat (first | refine G.sub (by omega) ?_ | refine G.step ?_))
      refine Gs.buildSlice (out := [I (n - 1), I ((0 : Nat) : Int)]) (by decide) ?_
      intro b1
      refine Gs.freezeE (enc := eFr) (v := .slice (some ⟨b1, 0, none⟩) 1 1) (l := [(n - 1, 0)]) (by decide) ?_
      intro h' le r1
      refine Gs.ret ⟨(some ⟨b1, 0, none⟩, 1, 1), (none, 0, 0), rfl, ?_, ?_⟩
      · unfold plN; rw [if_neg (by decide), if_pos h1]; exact r1
      · unfold prN; rw [if_neg (by decide), if_neg (by omega)]; exact RdE.nil _ _ _
    · (repeat (refine G.step ?_))
      refine G.ifd ?_ ?_ <;> intro h2
      · (repeat (first | refine Gs.dr ?_ | refine G.qadd (by omega) ?_ | refine G.qkp ?_ | refine Gs.qkb ?_))
        refine Gs.buildSlice (out := [I (n + 1), I ((0 : Nat) : Int)]) (by decide) ?_
        intro b1
        refine Gs.freezeE (enc := eFr) (v := .slice (some ⟨b1, 0, none⟩) 1 1) (l := [(n + 1, 0)]) (by decide) ?_
        intro h' le r1
        refine Gs.ret ⟨(none, 0, 0), (some ⟨b1, 0, none⟩, 1, 1), rfl, ?_, ?_⟩
        · unfold plN; rw [if_neg (by decide), if_neg (by omega)]; exact RdE.nil _ _ _
        · unfold prN; rw [if_neg (by decide), if_pos h2]; exact r1
      · refine Gs.ret ⟨(none, 0, 0), (none, 0, 0), rfl, ?_, ?_⟩
        · unfold plN; rw [if_neg (by decide), if_neg (by omega)]; exact RdE.nil _ _ _
        · unfold prN; rw [if_neg (by decide), if_neg (by omega)]; exact RdE.nil _ _ _
/-! ### Building, as long as there is room -/
structure BS (h : Hp) (A : Int) (r : Int) (y : FmH) (r' : Int) : Prop where
  ok : (sz (ff A) : Int) ≤ r → FmR h y (ff A) ∧ r' = r - sz (ff A)
  no : r < sz (ff A) → r' < 0
  low : r ≤ 0 → r' = r - 1
  up : 0 < r → -(me A : Int) - 1 ≤ r' ∧ r' ≤ r
theorem BS.mono {h h' : Hp} {A r r' : Int} {y : FmH} (hle : Hle h h') (b : BS h A r y r') : BS h' A r y r' := ⟨fun h1 => ⟨(b.ok h1).1.mono hle, (b.ok h1).2⟩, b.no, b.low, b.up⟩
/-- The options of one side. -/
def BL (h : Hp) (l : List (Int × Nat)) (r : Int) (xs : List FmH) (r' : Int) : Prop := match l with
  | [] => xs = [] ∧ r' = r
  | [x] => ∃ y, xs = [y] ∧ BS h (val x.1 x.2) r y r'
  | _ => False
theorem BL.mono {h h' : Hp} {r r' : Int} {xs : List FmH} (hle : Hle h h') : ∀ {l : List (Int × Nat)}, BL h l r xs r' → BL h' l r xs r'
  | [], b => b
  | [x], ⟨y, h1, h2⟩ => ⟨y, h1, h2.mono hle⟩
  | _ :: _ :: _, b => b
/-- A fraction in lowest terms, not too large. -/
def Vd (n : Int) (e : Nat) : Prop := e ≤ 30 ∧ (e = 0 ∨ n % 2 = 1) ∧ -1000000 ≤ n ∧ n ≤ 1000000
theorem Vd.nu {n : Int} {e : Nat} (h : Vd n e) : nu (val n e) = n ∧ ex (val n e) = e := nu_val ⟨h.1, by have := h.2.2.1; omega, by have := h.2.2.2; omega, h.2.1⟩
theorem Vd.un {n : Int} {e : Nat} (h : Vd n e) : un (val n e) = 2 ^ (30 - e) := by unfold Va.un; rw [h.nu.2]
theorem Vd.pos {n : Int} {e : Nat} (h : Vd n e) : (0 < val n e ↔ 0 < n) ∧ (val n e < 0 ↔ n < 0) := by
  have hu := un_pos (val n e)
  have hn := nu_un (val n e)
  rw [h.nu.1] at hn
  constructor
  · rw [← hn]
    exact ⟨fun h => Int.pos_of_mul_pos_left h hu, fun h => Int.mul_pos h hu⟩
  · rw [← hn]
    constructor
    · intro h1
      rcases Int.lt_or_le n 0 with h2 | h2
      · exact h2
      · have := Int.mul_nonneg h2 (Int.le_of_lt hu); omega
    · intro h1
      have := Int.mul_neg_of_neg_of_pos h1 hu
      exact this
theorem vd_strip {n d : Int} {e : Nat} (h : Vd n e) (h0 : 0 < e) (hd : d = 1 ∨ d = -1) : Vd (strip e (n + d)).1 (strip e (n + d)).2 ∧ val (strip e (n + d)).1 (strip e (n + d)).2 = val n e + d * Va.un (val n e) := by
  obtain ⟨h1, h2, h3, h4⟩ := h
  have ho : n % 2 = 1 := h2.resolve_left (by omega)
  have e1 := strip_step e (n + d) h0 (by omega)
  constructor
  · have a := Go.Dy.strip_le e (n + d)
    have b := Go.Dy.strip_odd e (n + d)
    have c := Go.Dy.strip_abs (e - 1) ((n + d) / 2) 1000000 (by omega) (by omega) (by decide)
    rw [← e1] at c
    exact ⟨by omega, b, c.1, c.2⟩
  · have a : strip 30 (val (n + d) e) = strip e (n + d) := Go.Dy.strip_val30 _ _ h1
    have b : val (strip e (n + d)).1 (strip e (n + d)).2 = val (n + d) e := by rw [← a]; exact Go.Dy.val_strip _
    rw [b, Vd.un ⟨h1, h2, h3, h4⟩]
    unfold val
    rw [Int.add_mul]
theorem pl_spec {n : Int} {e : Nat} (h : Vd n e) : ((0 < ex (val n e) ∨ 0 < val n e) ∧ ∃ x : Int × Nat, plN n e = [x] ∧ Vd x.1 x.2 ∧ val x.1 x.2 = val n e - Va.un (val n e)) ∨ (¬ (0 < ex (val n e) ∨ 0 < val n e) ∧ plN n e = []) := by
  rw [h.nu.2, h.pos.1]
  unfold plN
  by_cases h0 : 0 < e
  · left
    rw [if_pos h0]
    obtain ⟨a, b⟩ := vd_strip (d := -1) h h0 (.inr rfl)
    refine ⟨.inl h0, _, rfl, ?_, ?_⟩
    · exact a
    · rw [show n - 1 = n + -1 by omega, b]; omega
  · have he : e = 0 := by omega
    subst he
    rw [if_neg h0]
    by_cases hn : 0 < n
    · left
      rw [if_pos hn]
      refine ⟨.inr hn, _, rfl, ⟨by simp, .inl rfl, by have := h.2.2.1; dsimp only; omega, by have := h.2.2.2; dsimp only; omega⟩, ?_⟩
      rw [h.un]
      unfold val
      rw [Int.sub_mul, Int.one_mul]
    · right
      rw [if_neg hn]
      exact ⟨by omega, rfl⟩
theorem pr_spec {n : Int} {e : Nat} (h : Vd n e) : ((0 < ex (val n e) ∨ val n e < 0) ∧ ∃ x : Int × Nat, prN n e = [x] ∧ Vd x.1 x.2 ∧ val x.1 x.2 = val n e + Va.un (val n e)) ∨ (¬ (0 < ex (val n e) ∨ val n e < 0) ∧ prN n e = []) := by
  rw [h.nu.2, h.pos.2]
  unfold prN
  by_cases h0 : 0 < e
  · left
    rw [if_pos h0]
    obtain ⟨a, b⟩ := vd_strip (d := 1) h h0 (.inl rfl)
    refine ⟨.inl h0, _, rfl, ?_, ?_⟩
    · exact a
    · rw [b]; omega
  · have he : e = 0 := by omega
    subst he
    rw [if_neg h0]
    by_cases hn : n < 0
    · left
      rw [if_pos hn]
      refine ⟨.inr hn, _, rfl, ⟨by simp, .inl rfl, by have := h.2.2.1; dsimp only; omega, by have := h.2.2.2; dsimp only; omega⟩, ?_⟩
      rw [h.un]
      unfold val
      rw [Int.add_mul, Int.one_mul]
    · right
      rw [if_neg hn]
      exact ⟨by omega, rfl⟩
theorem sz_ff (A : Int) : (sz (ff A) : Int) = 1 + (if 0 < ex A ∨ 0 < A then (sz (ff (A - Va.un A)) : Int) else 0) + (if 0 < ex A ∨ A < 0 then (sz (ff (A + Va.un A)) : Int) else 0) := by
  rw [sz_eq, ff_L, ff_R]
  split <;> split <;> simp [szs]
/-- Both sides built: the whole is. -/
theorem BS.whole {h : Hp} {n : Int} {e : Nat} {r r1 r2 : Int} {xs zs : List FmH} {ql qr : SlH} (hv : Vd n e) (hr : 0 < r) (h1 : BL h (plN n e) (r - 1) xs r1) (h2 : BL h (prN n e) r1 zs r2) (hql : RdE h (slv ql) eFH 2 xs) (hqr : RdE h (slv qr) eFH 2 zs) : BS h (val n e) r (ql, qr) r2 := by
  have hs := sz_ff (val n e)
  have p1 := fun A => sz_pos (ff A)
  rcases pl_spec hv with ⟨c1, x, e1, v1, w1⟩ | ⟨c1, e1⟩ <;> rcases pr_spec hv with ⟨c2, y, e2, v2, w2⟩ | ⟨c2, e2⟩ <;> rw [e1] at h1 <;> rw [e2] at h2 <;> unfold BL at h1 h2
  · obtain ⟨y1, rfl, b1⟩ := h1
    obtain ⟨y2, rfl, b2⟩ := h2
    rw [w1] at b1
    rw [w2] at b2
    rw [if_pos c1, if_pos c2] at hs
    have m1 := me_l c1
    have m2 := me_r c2
    have q1 := p1 (val n e - Va.un (val n e))
    have q2 := p1 (val n e + Va.un (val n e))
    refine ⟨fun hle => ?_, fun hlt => ?_, fun h0 => by omega, fun _ => ?_⟩
    · obtain ⟨f1, g1⟩ := b1.ok (by omega)
      obtain ⟨f2, g2⟩ := b2.ok (by omega)
      refine ⟨FmR_iff.2 ⟨?_, ?_⟩, by omega⟩
      · rw [ff_L, if_pos c1]; exact ⟨_, hql, .cons f1 .nil⟩
      · rw [ff_R, if_pos c2]; exact ⟨_, hqr, .cons f2 .nil⟩
    · by_cases hb : (sz (ff (val n e - Va.un (val n e))) : Int) ≤ r - 1
      · have := (b1.ok hb).2
        exact b2.no (by omega)
      · have := b1.no (by omega)
        have := b2.low (by omega)
        omega
    · by_cases h3 : 0 < r - 1
      · have k1 := b1.up h3
        by_cases h4 : 0 < r1
        · have := b2.up h4; omega
        · have := b2.low (by omega); omega
      · have k1 := b1.low (by omega)
        have := b2.low (by omega)
        omega
  · obtain ⟨y1, rfl, b1⟩ := h1
    obtain ⟨rfl, rfl⟩ := h2
    rw [w1] at b1
    rw [if_pos c1, if_neg c2] at hs
    have m1 := me_l c1
    have q1 := p1 (val n e - Va.un (val n e))
    refine ⟨fun hle => ?_, fun hlt => b1.no (by omega), fun h0 => by omega, fun _ => ?_⟩
    · obtain ⟨f1, g1⟩ := b1.ok (by omega)
      refine ⟨FmR_iff.2 ⟨?_, ?_⟩, by omega⟩
      · rw [ff_L, if_pos c1]; exact ⟨_, hql, .cons f1 .nil⟩
      · rw [ff_R, if_neg c2]; exact ⟨_, hqr, .nil⟩
    · by_cases h3 : 0 < r - 1
      · have k1 := b1.up h3; omega
      · have k1 := b1.low (by omega); omega
  · obtain ⟨rfl, rfl⟩ := h1
    obtain ⟨y2, rfl, b2⟩ := h2
    rw [w2] at b2
    rw [if_neg c1, if_pos c2] at hs
    have m2 := me_r c2
    have q2 := p1 (val n e + Va.un (val n e))
    refine ⟨fun hle => ?_, fun hlt => b2.no (by omega), fun h0 => by omega, fun _ => ?_⟩
    · obtain ⟨f2, g2⟩ := b2.ok (by omega)
      refine ⟨FmR_iff.2 ⟨?_, ?_⟩, by omega⟩
      · rw [ff_L, if_neg c1]; exact ⟨_, hql, .nil⟩
      · rw [ff_R, if_pos c2]; exact ⟨_, hqr, .cons f2 .nil⟩
    · by_cases h3 : 0 < r - 1
      · have k1 := b2.up h3; omega
      · have k1 := b2.low (by omega); omega
  · obtain ⟨rfl, rfl⟩ := h1
    obtain ⟨rfl, rfl⟩ := h2
    rw [if_neg c1, if_neg c2] at hs
    refine ⟨fun hle => ?_, fun hlt => by omega, fun h0 => by omega, fun _ => by omega⟩
    refine ⟨FmR_iff.2 ⟨?_, ?_⟩, by omega⟩
    · rw [ff_L, if_neg c1]; exact ⟨_, hql, .nil⟩
    · rw [ff_R, if_neg c2]; exact ⟨_, hqr, .nil⟩
end Go.Proofs.Ytnepdmnkhjpnhaa
end

section
/-
  Values: building the form of a number; numbers' forms within the limit.
-/
set_option linter.unusedVariables false
set_option linter.unusedSimpArgs false
set_option linter.unusedSectionVars false
set_option maxHeartbeats 8000000
namespace Go.Proofs.Ytnepdmnkhjpnhaa
open Go Go.Sk Go.Va Go.RowKit
open Go.Dy (strip Valid val btw validB)
variable {M : Go.Sk.Mode}
theorem pl_len (n : Int) (e : Nat) : (plN n e).length ≤ 1 := by unfold plN; split; simp; split <;> simp
theorem pr_len1 (n : Int) (e : Nat) : (prN n e).length ≤ 1 := by unfold prN; split; simp; split <;> simp
theorem build_in {w0 : World} {h0 : Hp} : ∀ (N : Nat) (n : Int) (e : Nat), me (val n e) ≤ N → Vd n e → ∀ (h : Hp) (L R : List Itm) (K : Value → WP) (rb : Nat) (r : Int) [htk : TakeB L rb [I r] 3 R], -2000000 ≤ r ∧ r ≤ 2000000 →
    (∀ y h' r', Hle h h' → BS h' (val n e) r y r' → Gs w0 h0 h' (.blk rb [I r'] 3 :: R) (K (vF y))) → Gs w0 h0 h L (Do Try.prog (vCall (.func (.func 54) #[] ⟨[]⟩) [Fr2 n e, ptr rb 0]) K) := by
  intro N
  induction N with
  | zero =>
    intro n e hme hv h L R K rb r htk hr hk
    refine Gs.perm htk.perm ?_
    refine in54 ?_
    unfold s54
    have hsz := sz_pos (ff (val n e))
    have hmv : me (val n e) = e + n.natAbs := by unfold me; rw [hv.nu.1, hv.nu.2]
    have hv' := hv
    obtain ⟨g1, g2, g3, g4⟩ := hv'
    (repeat (first | refine G.sub (by omega) ?_ | refine G.step ?_ | (refine Gs.box ?_; intro _) | (refine Gs.alloc ?_; intro _) | refine Gs.store ?_))
    rename_i xb fb
    refine G.ifd ?_ ?_ <;> intro hneg
    · (repeat (first | refine G.step ?_ | refine Gs.store ?_ | refine G.retc ?_))
      exact Gs.sel (hk ((none, 0, 0), (none, 0, 0)) h (r - 1) (Hle.refl h) ⟨fun h1 => by omega, fun _ => hneg, fun _ => rfl, fun _ => by omega⟩)
    · (repeat (refine G.step ?_))
      refine Gs.call0 (parents_ok n e h (by omega) g1) ?_
      rintro _ h1 le1 ⟨ql, qr, rfl, rl, rr⟩
      have hll := pl_len n e
      have hlr := pr_len1 n e
      have hpl := fun (_ : Unit) => pl_spec hv
      have hpr := fun (_ : Unit) => pr_spec hv
      (repeat (refine G.step ?_))
      refine Gs.lenE rl (by omega) ?_
      refine Gs.nilsl 61 2 ?_
      refine Gs.sel (L' := .sl (.slice none 0 0) 61 2 [] :: .blk fb [.slice none 0 0, .slice none 0 0] 61 :: .blk xb [I n, I e] 65 :: .blk rb [I (r - 1)] 3 :: R) ?_
      refine Gs.lp (β := Nat × SlH × Hp × List FmH × Int) (fun u => I u.1) (fun u => u.2.2.1) (fun u => .sl (slv u.2.1) 61 2 (fl eFH u.2.2.2.1) :: .blk fb [slv u.2.1, .slice none 0 0] 61 :: .blk xb [I n, I e] 65 :: .blk rb [I u.2.2.2.2] 3 :: R) (fun u => u.1 ≤ (plN n e).length ∧ Hle h1 u.2.2.1 ∧ BL u.2.2.1 ((plN n e).take u.1) (r - 1) u.2.2.2.1 u.2.2.2.2 ∧ -1100000 ≤ u.2.2.2.2 ∧ u.2.2.2.2 ≤ 2000000) (fun u => (plN n e).length - u.1) (0, (none, 0, 0), h1, [], r - 1) rfl ⟨Nat.zero_le _, Hle.refl h1, by simp [BL], by dsimp only; omega, by dsimp only; omega⟩ (fun _ s => s) ?_
      rintro ⟨i, q, hh, xs, rx⟩ ⟨hi, hle, hbl, hb1, hb2⟩ cont hc
      dsimp only at hi hle hbl hb1 hb2 hc ⊢
      (repeat (first | refine G.step ?_ | (refine G.jk ?_; intro _)))
      refine G.ifd ?_ ?_ <;> intro hlt
      · have hi0 : i = 0 := by omega
        subst hi0
        have hno : ¬ ((plN n e) = []) := fun h0 => by rw [h0] at hlt; simp at hlt
        obtain ⟨c1, x, ex1, vx, wx⟩ := (hpl ()).resolve_right (fun h0 => hno h0.2)
        rw [ex1] at hlt hc hbl rl
        rw [List.take_zero] at hbl
        obtain ⟨rfl, rfl⟩ := hbl
        refine Gs.indexE (rl.mono hle) (show 0 < [x].length by simp) ?_
        intro b1 o1 hpx
        refine Gs.loadE hpx ?_
        rw [List.getElem_cons_zero]
        (repeat (first | (refine Gs.alloc ?_; intro _) | refine Gs.store ?_ | refine Gs.dr ?_ | refine G.qkp ?_ | refine Gs.qkb ?_))
        have hmx := me_l c1
        exfalso; omega
      · have hi' : i = (plN n e).length := by omega
        subst hi'
        rw [List.take_length] at hbl
        clear hc cont hlt hi
        refine Gs.freezeE (enc := eFH) (v := slv q) (by decide) ?_
        intro h2 le2 hfr
        have hbL := hbl.mono le2
        have le12 := hle.trans le2
        generalize q = qL at *
        generalize rx = rL at *
        generalize xs = xL at *
        clear hbl hle
        skip
        refine Gs.lenE (rr.mono le12) (by omega) ?_
        refine Gs.nilsl 61 2 ?_
        replace rr := rr.mono le12
        replace rl := rl.mono le12
        refine Gs.lp (β := Nat × SlH × Hp × List FmH × Int) (fun u => I u.1) (fun u => u.2.2.1) (fun u => .sl (slv u.2.1) 61 2 (fl eFH u.2.2.2.1) :: .blk fb [slv qL, slv u.2.1] 61 :: .blk xb [I n, I e] 65 :: .blk rb [I u.2.2.2.2] 3 :: R) (fun u => u.1 ≤ (prN n e).length ∧ Hle h2 u.2.2.1 ∧ BL u.2.2.1 ((prN n e).take u.1) rL u.2.2.2.1 u.2.2.2.2 ∧ -1200000 ≤ u.2.2.2.2 ∧ u.2.2.2.2 ≤ 2000000) (fun u => (prN n e).length - u.1) (0, (none, 0, 0), h2, [], rL) rfl ⟨Nat.zero_le _, Hle.refl h2, by simp [BL], by dsimp only; omega, by dsimp only; omega⟩ (fun _ s => s) ?_
        rintro ⟨i, q2, hh, xs, rx⟩ ⟨hi, hle, hbl, hb1, hb2⟩ cont hc
        dsimp only at hi hle hbl hb1 hb2 hc ⊢
        (repeat (first | refine G.step ?_ | (refine G.jk ?_; intro _)))
        refine G.ifd ?_ ?_ <;> intro hlt
        · have hi0 : i = 0 := by omega
          subst hi0
          have hno : ¬ ((prN n e) = []) := fun h0 => by rw [h0] at hlt; simp at hlt
          obtain ⟨c1, x, ex1, vx, wx⟩ := (hpr ()).resolve_right (fun h0 => hno h0.2)
          rw [ex1] at hlt hc hbl rr
          rw [List.take_zero] at hbl
          obtain ⟨rfl, rfl⟩ := hbl
          refine Gs.indexE (rr.mono hle) (show 0 < [x].length by simp) ?_
          intro b1 o1 hpx
          refine Gs.loadE hpx ?_
          rw [List.getElem_cons_zero]
          (repeat (first | (refine Gs.alloc ?_; intro _) | refine Gs.store ?_ | refine Gs.dr ?_ | refine G.qkp ?_ | refine Gs.qkb ?_))
          have hmx := me_r c1
          exfalso; omega
        · have hi' : i = (prN n e).length := by omega
          subst hi'
          rw [List.take_length] at hbl
          clear hc cont hlt hi
          refine Gs.freezeE (enc := eFH) (v := slv q2) (by decide) ?_
          intro h4 le4 hfr4
          (repeat (first | refine G.step ?_ | refine Gs.store ?_ | refine G.retc ?_))
          refine Gs.sel (hk (qL, q2) h4 rx (le1.trans (le12.trans (hle.trans le4))) ?_)
          exact BS.whole hv (by omega) (hbL.mono (hle.trans le4)) (hbl.mono le4) (hfr.mono (hle.trans le4)) hfr4
  | succ N ih =>
    intro n e hme hv h L R K rb r htk hr hk
    refine Gs.perm htk.perm ?_
    refine in54 ?_
    unfold s54
    have hsz := sz_pos (ff (val n e))
    have hmv : me (val n e) = e + n.natAbs := by unfold me; rw [hv.nu.1, hv.nu.2]
    have hv' := hv
    obtain ⟨g1, g2, g3, g4⟩ := hv'
    (repeat (first | refine G.sub (by omega) ?_ | refine G.step ?_ | (refine Gs.box ?_; intro _) | (refine Gs.alloc ?_; intro _) | refine Gs.store ?_))
    rename_i xb fb
    refine G.ifd ?_ ?_ <;> intro hneg
    · (repeat (first | refine G.step ?_ | refine Gs.store ?_ | refine G.retc ?_))
      exact Gs.sel (hk ((none, 0, 0), (none, 0, 0)) h (r - 1) (Hle.refl h) ⟨fun h1 => by omega, fun _ => hneg, fun _ => rfl, fun _ => by omega⟩)
    · (repeat (refine G.step ?_))
      refine Gs.call0 (parents_ok n e h (by omega) g1) ?_
      rintro _ h1 le1 ⟨ql, qr, rfl, rl, rr⟩
      have hll := pl_len n e
      have hlr := pr_len1 n e
      have hpl := fun (_ : Unit) => pl_spec hv
      have hpr := fun (_ : Unit) => pr_spec hv
      (repeat (refine G.step ?_))
      refine Gs.lenE rl (by omega) ?_
      refine Gs.nilsl 61 2 ?_
      refine Gs.sel (L' := .sl (.slice none 0 0) 61 2 [] :: .blk fb [.slice none 0 0, .slice none 0 0] 61 :: .blk xb [I n, I e] 65 :: .blk rb [I (r - 1)] 3 :: R) ?_
      refine Gs.lp (β := Nat × SlH × Hp × List FmH × Int) (fun u => I u.1) (fun u => u.2.2.1) (fun u => .sl (slv u.2.1) 61 2 (fl eFH u.2.2.2.1) :: .blk fb [slv u.2.1, .slice none 0 0] 61 :: .blk xb [I n, I e] 65 :: .blk rb [I u.2.2.2.2] 3 :: R) (fun u => u.1 ≤ (plN n e).length ∧ Hle h1 u.2.2.1 ∧ BL u.2.2.1 ((plN n e).take u.1) (r - 1) u.2.2.2.1 u.2.2.2.2 ∧ -1100000 ≤ u.2.2.2.2 ∧ u.2.2.2.2 ≤ 2000000) (fun u => (plN n e).length - u.1) (0, (none, 0, 0), h1, [], r - 1) rfl ⟨Nat.zero_le _, Hle.refl h1, by simp [BL], by dsimp only; omega, by dsimp only; omega⟩ (fun _ s => s) ?_
      rintro ⟨i, q, hh, xs, rx⟩ ⟨hi, hle, hbl, hb1, hb2⟩ cont hc
      dsimp only at hi hle hbl hb1 hb2 hc ⊢
      (repeat (first | refine G.step ?_ | (refine G.jk ?_; intro _)))
      refine G.ifd ?_ ?_ <;> intro hlt
      · have hi0 : i = 0 := by omega
        subst hi0
        have hno : ¬ ((plN n e) = []) := fun h0 => by rw [h0] at hlt; simp at hlt
        obtain ⟨c1, x, ex1, vx, wx⟩ := (hpl ()).resolve_right (fun h0 => hno h0.2)
        rw [ex1] at hlt hc hbl rl
        rw [List.take_zero] at hbl
        obtain ⟨rfl, rfl⟩ := hbl
        refine Gs.indexE (rl.mono hle) (show 0 < [x].length by simp) ?_
        intro b1 o1 hpx
        refine Gs.loadE hpx ?_
        rw [List.getElem_cons_zero]
        (repeat (first | (refine Gs.alloc ?_; intro _) | refine Gs.store ?_ | refine Gs.dr ?_ | refine G.qkp ?_ | refine Gs.qkb ?_))
        have hmx := me_l c1
        refine ih x.1 x.2 (by rw [wx]; omega) vx hh _ _ _ rb _ ⟨by omega, by omega⟩ ?_
        intro y h3 r3 le3 hbs
        have hmv2 : me (val x.1 x.2) < me (val n e) := by rw [wx]; exact hmx
        have hr3 : -1100000 ≤ r3 ∧ r3 ≤ 2000000 := by
          by_cases h0 : 0 < r - 1
          · have := hbs.up h0; omega
          · have := hbs.low (by omega); omega
        (repeat (first | refine G.withT ?_ | refine Gs.withb ?_))
        refine Gs.buildSlice (out := eFH y) (by decide) ?_
        intro eb
        (repeat (first | refine G.withT ?_ | refine Gs.withb ?_))
        refine Gs.appendO (enc := eFH) (l := []) (m := [y]) (e2 := 61) (by simp [fl]) (by simp) (by simp) ?_
        intro v'
        refine Gs.slH (v := v') ?_
        rintro q3 rfl
        (repeat (first | refine G.add (by omega) ?_ | refine Gs.store ?_ | refine G.qkp ?_))
        rw [List.nil_append]
        refine Gs.goS (hc (1, q3, h3, [y], r3) ⟨by simp, hle.trans le3, ⟨y, rfl, hbs⟩, hr3.1, hr3.2⟩ (by simp)) (by simp)
      · have hi' : i = (plN n e).length := by omega
        subst hi'
        rw [List.take_length] at hbl
        clear hc cont hlt hi
        refine Gs.freezeE (enc := eFH) (v := slv q) (by decide) ?_
        intro h2 le2 hfr
        have hbL := hbl.mono le2
        have le12 := hle.trans le2
        generalize q = qL at *
        generalize rx = rL at *
        generalize xs = xL at *
        clear hbl hle
        skip
        refine Gs.lenE (rr.mono le12) (by omega) ?_
        refine Gs.nilsl 61 2 ?_
        replace rr := rr.mono le12
        replace rl := rl.mono le12
        refine Gs.lp (β := Nat × SlH × Hp × List FmH × Int) (fun u => I u.1) (fun u => u.2.2.1) (fun u => .sl (slv u.2.1) 61 2 (fl eFH u.2.2.2.1) :: .blk fb [slv qL, slv u.2.1] 61 :: .blk xb [I n, I e] 65 :: .blk rb [I u.2.2.2.2] 3 :: R) (fun u => u.1 ≤ (prN n e).length ∧ Hle h2 u.2.2.1 ∧ BL u.2.2.1 ((prN n e).take u.1) rL u.2.2.2.1 u.2.2.2.2 ∧ -1200000 ≤ u.2.2.2.2 ∧ u.2.2.2.2 ≤ 2000000) (fun u => (prN n e).length - u.1) (0, (none, 0, 0), h2, [], rL) rfl ⟨Nat.zero_le _, Hle.refl h2, by simp [BL], by dsimp only; omega, by dsimp only; omega⟩ (fun _ s => s) ?_
        rintro ⟨i, q2, hh, xs, rx⟩ ⟨hi, hle, hbl, hb1, hb2⟩ cont hc
        dsimp only at hi hle hbl hb1 hb2 hc ⊢
        (repeat (first | refine G.step ?_ | (refine G.jk ?_; intro _)))
        refine G.ifd ?_ ?_ <;> intro hlt
        · have hi0 : i = 0 := by omega
          subst hi0
          have hno : ¬ ((prN n e) = []) := fun h0 => by rw [h0] at hlt; simp at hlt
          obtain ⟨c1, x, ex1, vx, wx⟩ := (hpr ()).resolve_right (fun h0 => hno h0.2)
          rw [ex1] at hlt hc hbl rr
          rw [List.take_zero] at hbl
          obtain ⟨rfl, rfl⟩ := hbl
          refine Gs.indexE (rr.mono hle) (show 0 < [x].length by simp) ?_
          intro b1 o1 hpx
          refine Gs.loadE hpx ?_
          rw [List.getElem_cons_zero]
          (repeat (first | (refine Gs.alloc ?_; intro _) | refine Gs.store ?_ | refine Gs.dr ?_ | refine G.qkp ?_ | refine Gs.qkb ?_))
          have hmx := me_r c1
          refine ih x.1 x.2 (by rw [wx]; omega) vx hh _ _ _ rb _ ⟨by omega, by omega⟩ ?_
          intro y h3 r3 le3 hbs
          have hmv2 : me (val x.1 x.2) < me (val n e) := by rw [wx]; exact hmx
          have hr3 : -1200000 ≤ r3 ∧ r3 ≤ 2000000 := by
            by_cases h0 : 0 < rx
            · have := hbs.up h0; omega
            · have := hbs.low (by omega); omega
          (repeat (first | refine G.withT ?_ | refine Gs.withb ?_))
          refine Gs.buildSlice (out := eFH y) (by decide) ?_
          intro eb
          (repeat (first | refine G.withT ?_ | refine Gs.withb ?_))
          refine Gs.appendO (enc := eFH) (l := []) (m := [y]) (e2 := 61) (by simp [fl]) (by simp) (by simp) ?_
          intro v'
          refine Gs.slH (v := v') ?_
          rintro q3 rfl
          (repeat (first | refine G.add (by omega) ?_ | refine Gs.store ?_ | refine G.qkp ?_))
          rw [List.nil_append]
          refine Gs.goS (hc (1, q3, h3, [y], r3) ⟨by simp, hle.trans le3, ⟨y, rfl, hbs⟩, hr3.1, hr3.2⟩ (by simp)) (by simp)
        · have hi' : i = (prN n e).length := by omega
          subst hi'
          rw [List.take_length] at hbl
          clear hc cont hlt hi
          refine Gs.freezeE (enc := eFH) (v := slv q2) (by decide) ?_
          intro h4 le4 hfr4
          (repeat (first | refine G.step ?_ | refine Gs.store ?_ | refine G.retc ?_))
          refine Gs.sel (hk (qL, q2) h4 rx (le1.trans (le12.trans (hle.trans le4))) ?_)
          exact BS.whole hv (by omega) (hbL.mono (hle.trans le4)) (hbl.mono le4) (hfr.mono (hle.trans le4)) hfr4
end Go.Proofs.Ytnepdmnkhjpnhaa
end

section
/-
  Values: Of: the form of a number, if there is room.
-/
set_option linter.unusedVariables false
set_option linter.unusedSimpArgs false
set_option linter.unusedSectionVars false
set_option maxHeartbeats 8000000
namespace Go.Proofs.Ytnepdmnkhjpnhaa
open Go Go.Sk Go.Va Go.RowKit
open Go.Dy (strip Valid val btw validB)
variable {M : Go.Sk.Mode}
/-- What Of answers: not a fraction; too big; the form. -/
def OfP (h : Hp) (n : Int) (e : Nat) (v : Value) : Prop :=
  (sz (ff (val n e)) ≤ 2000 ∧ ∃ y : FmH, v = .tuple #[vF y, I 0] ∧ FmR h y (ff (val n e))) ∨ (2000 < sz (ff (val n e)) ∧ v = .tuple #[vF ((none, 0, 0), (none, 0, 0)), I 2])
theorem of_bad (n e : Int) (h : Hp) (hv : validB n e = false) : Ct Try.prog 28 [Fr2 n e] h (fun _ v => v = .tuple #[vF ((none, 0, 0), (none, 0, 0)), I 190]) := by
  refine ct28 ?_
  intro w0
  unfold s28
  (repeat (first | refine G.step ?_ | (refine Gs.box ?_; intro _) | (refine Gs.alloc ?_; intro _)))
  refine Gs.call0 (Q.valid_ok n e h) ?_
  rintro _ h1 le1 rfl
  rw [hv]
  (repeat (first | refine G.step ?_ | refine Gs.store ?_ | refine G.retc ?_ | refine G.ift ?_))
  exact Gs.ret rfl
theorem of_ok (n : Int) (e : Nat) (h : Hp) (hv : Vd n e) : Ct Try.prog 28 [Fr2 n e] h (fun h' v => OfP h' n e v) := by
  refine ct28 ?_
  intro w0
  unfold s28
  have hvb : validB n e = true := (Go.Dy.validB_iff n e).2 ⟨hv.1, by have := hv.2.2.1; omega, by have := hv.2.2.2; omega, hv.2.1⟩
  (repeat (first | refine G.step ?_ | (refine Gs.box ?_; intro _) | (refine Gs.alloc ?_; intro _)))
  refine Gs.call0 (Q.valid_ok n e h) ?_
  rintro _ h1 le1 rfl
  rw [hvb]
  (repeat (first | refine G.step ?_ | (refine Gs.alloc ?_; intro _) | refine Gs.store ?_ | refine G.iff ?_))
  rename_i xb fb rb
  refine build_in _ n e (Nat.le_refl _) hv _ _ _ _ rb 2000 ⟨by decide, by decide⟩ ?_
  intro y h2 r2 le2 hbs
  have hr2 : -3000000 ≤ r2 ∧ r2 ≤ 2000 := by
    have := hbs.up (by decide)
    have hmv : me (val n e) = e + n.natAbs := by unfold me; rw [hv.nu.1, hv.nu.2]
    obtain ⟨g1, g2, g3, g4⟩ := hv
    omega
  (repeat (first | refine G.step ?_ | (refine Gs.alloc ?_; intro _) | refine Gs.store ?_))
  refine G.ifd ?_ ?_ <;> intro hneg
  · (repeat (first | refine G.step ?_ | refine Gs.store ?_ | refine G.retc ?_))
    refine Gs.ret (.inr ⟨?_, rfl⟩)
    by_cases hle : (sz (ff (val n e)) : Int) ≤ 2000
    · have := (hbs.ok hle).2; omega
    · omega
  · (repeat (first | refine G.step ?_ | refine Gs.store ?_ | refine G.retc ?_))
    by_cases hle : (sz (ff (val n e)) : Int) ≤ 2000
    · exact Gs.ret (.inl ⟨by omega, y, rfl, (hbs.ok hle).1⟩)
    · have := hbs.no (by omega); omega
/-- What the reference's size of a number's form is. -/
structure LS (A : Int) (e : Nat) (lim r : Int) : Prop where
  lo : 1 ≤ r
  hi : r ≤ 2001 * (e + 1)
  eq : (sz (ff A) : Int) ≤ lim → r = sz (ff A)
  big : lim < sz (ff A) → lim < r
end Go.Proofs.Ytnepdmnkhjpnhaa
end

