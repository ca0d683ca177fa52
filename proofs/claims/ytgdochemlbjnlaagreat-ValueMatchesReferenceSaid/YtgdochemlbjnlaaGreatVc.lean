/-
  Lemmas for the proof of the statement of this claim: a part of the road, no statement of its own. Conditions: those that each lemma names.
-/
import Derived.Test.YtgdochemlbjnlaaGreatVs
import Derived.Test.YtgdochemlbjnlaaGreatVm
import Derived.Test.YtgdochemlbjnlaaGreatKw
import Derived.Test.YtgdochemlbjnlaaGreatSh
import Derived.Sort.Walk0
section
/-
  Values: how forms and nodes lie in memory; the book that keeps them.
-/
set_option linter.unusedVariables false
set_option linter.unusedSimpArgs false
set_option linter.unusedSectionVars false
set_option maxHeartbeats 4000000
namespace Go.Proofs.YtgdochemlbjnlaaGreat
open Go Go.Sk Go.Va Go.RowKit
variable {M : Go.Sk.Mode}
/-! ### Forms -/
abbrev FmH := SlH × SlH
abbrev eFH : FmH → List Value := fun x => [slv x.1, slv x.2]
instance encFH : Enc eFH 2 := ⟨fun _ => rfl, fun a v h => by
  simp only [eFH, List.mem_cons, List.not_mem_nil, or_false] at h
  rcases h with rfl | rfl <;> rfl⟩
abbrev vF (x : FmH) : Value := .agg #[slv x.1, slv x.2]
instance ldFH : LdE Tryz.prog 28 eFH (fun x => vF x) := LdE.agg
mutual
def FmR (h : Hp) : FmH → Fm → Prop
  | x, .mk l r => (∃ hl, RdE h (slv x.1) eFH 2 hl ∧ FmRs h hl l) ∧ (∃ hr, RdE h (slv x.2) eFH 2 hr ∧ FmRs h hr r)
def FmRs (h : Hp) : List FmH → List Fm → Prop
  | [], [] => True
  | x :: xs, f :: fs => FmR h x f ∧ FmRs h xs fs
  | _, _ => False
end
theorem FmRs_all2 {h : Hp} : ∀ {xs : List FmH} {fs : List Fm}, FmRs h xs fs ↔ All2 (FmR h) xs fs
  | [], [] => by simp [FmRs, All2.nil]
  | [], f :: fs => by simp only [FmRs, false_iff]; intro h; cases h
  | x :: xs, [] => by simp only [FmRs, false_iff]; intro h; cases h
  | x :: xs, f :: fs => by
    simp only [FmRs]
    rw [FmRs_all2 (xs := xs) (fs := fs)]
    exact ⟨fun h => .cons h.1 h.2, fun h => by cases h with | cons a b => exact ⟨a, b⟩⟩
theorem FmR_iff {h : Hp} {x : FmH} {f : Fm} : FmR h x f ↔ RdF h (slv x.1) eFH 2 FmR f.L ∧ RdF h (slv x.2) eFH 2 FmR f.R := by
  cases f with
  | mk l r =>
    simp only [FmR, Fm.L, Fm.R, RdF, FmRs_all2]
theorem FmR.l {h : Hp} {x : FmH} {f : Fm} (hx : FmR h x f) : RdF h (slv x.1) eFH 2 FmR f.L := (FmR_iff.1 hx).1
theorem FmR.r {h : Hp} {x : FmH} {f : Fm} (hx : FmR h x f) : RdF h (slv x.2) eFH 2 FmR f.R := (FmR_iff.1 hx).2
theorem all2_mono' {α β : Type} {R T : α → β → Prop} : ∀ {l : List α} {m : List β}, All2 R l m → (∀ a, ∀ b ∈ m, R a b → T a b) → All2 T l m
  | _, _, .nil, _ => .nil
  | _, _, .cons h1 h2, h => .cons (h _ _ (by simp) h1) (all2_mono' h2 fun a b hb => h a b (by simp [hb]))
theorem FmR.mono' {h h' : Hp} (hle : Hle h h') (f : Fm) : ∀ x, FmR h x f → FmR h' x f := by
  refine Fm.ind (C := fun f => ∀ x, FmR h x f → FmR h' x f) (fun f hl hr x hx => ?_) f
  obtain ⟨⟨a, a1, a2⟩, ⟨b, b1, b2⟩⟩ := FmR_iff.1 hx
  exact FmR_iff.2 ⟨⟨a, a1.mono hle, all2_mono' a2 fun c d hd hc => hl d hd c hc⟩, ⟨b, b1.mono hle, all2_mono' b2 fun c d hd hc => hr d hd c hc⟩⟩
instance relFm : RelM FmR := ⟨fun hle hx => FmR.mono' hle _ _ hx⟩
theorem FmR.mono {h h' : Hp} {x : FmH} {f : Fm} (hx : FmR h x f) (hle : Hle h h') : FmR h' x f := FmR.mono' hle _ _ hx
theorem FmR.zero (h : Hp) : FmR h ((none, 0, 0), (none, 0, 0)) Va.zero := FmR_iff.2 ⟨RdF.nil _ _ _ _, RdF.nil _ _ _ _⟩
/-- The length of a form's options. -/
theorem len_le_szs : ∀ l : List Fm, l.length ≤ szs l
  | [] => Nat.le_refl _
  | x :: l => by have := len_le_szs l; have := sz_pos x; simp only [List.length_cons, szs]; omega
theorem lenL (f : Fm) : f.L.length < sz f := by have := len_le_szs f.L; rw [sz_eq]; omega
theorem lenR (f : Fm) : f.R.length < sz f := by have := len_le_szs f.R; rw [sz_eq]; omega
/-! ### Nodes -/
abbrev ePt : Nat → List Value := fun b => [ptr b 0]
instance encPt : Enc ePt 1 := ⟨fun _ => rfl, fun a v h => by
  simp only [ePt, List.mem_singleton] at h
  subst h; rfl⟩
instance ldPt : LdE Tryz.prog 49 ePt (fun b => ptr b 0) := ⟨fun h b o x hp => loadP1 (cs := []) hp, fun v e' sz xs b o x hp => oloadP1 (cs := []) hp⟩
mutual
def NdR (h : Hp) : Nat → Fm → Prop
  | b, .mk l r => ∃ ql qr : SlH, PtAt h b 0 [Str (pr (.mk l r)), slv ql, slv qr] ∧ (∃ hl, RdE h (slv ql) ePt 1 hl ∧ NdRs h hl l) ∧ (∃ hr, RdE h (slv qr) ePt 1 hr ∧ NdRs h hr r)
def NdRs (h : Hp) : List Nat → List Fm → Prop
  | [], [] => True
  | x :: xs, f :: fs => NdR h x f ∧ NdRs h xs fs
  | _, _ => False
end
theorem NdRs_all2 {h : Hp} : ∀ {xs : List Nat} {fs : List Fm}, NdRs h xs fs ↔ All2 (NdR h) xs fs
  | [], [] => by simp [NdRs, All2.nil]
  | [], f :: fs => by simp only [NdRs, false_iff]; intro h; cases h
  | x :: xs, [] => by simp only [NdRs, false_iff]; intro h; cases h
  | x :: xs, f :: fs => by
    simp only [NdRs]
    rw [NdRs_all2 (xs := xs) (fs := fs)]
    exact ⟨fun h => .cons h.1 h.2, fun h => by cases h with | cons a b => exact ⟨a, b⟩⟩
theorem NdR_iff {h : Hp} {b : Nat} {f : Fm} : NdR h b f ↔ ∃ ql qr : SlH, PtAt h b 0 [Str (pr f), slv ql, slv qr] ∧ RdF h (slv ql) ePt 1 NdR f.L ∧ RdF h (slv qr) ePt 1 NdR f.R := by
  cases f with
  | mk l r =>
    simp only [NdR, Fm.L, Fm.R, RdF, NdRs_all2]
theorem NdR.mono' {h h' : Hp} (hle : Hle h h') (f : Fm) : ∀ b, NdR h b f → NdR h' b f := by
  refine Fm.ind (C := fun f => ∀ b, NdR h b f → NdR h' b f) (fun f hl hr x hx => ?_) f
  obtain ⟨ql, qr, hp, ⟨a, a1, a2⟩, ⟨b, b1, b2⟩⟩ := NdR_iff.1 hx
  exact NdR_iff.2 ⟨ql, qr, hp.mono hle, ⟨a, a1.mono hle, all2_mono' a2 fun c d hd hc => hl d hd c hc⟩, ⟨b, b1.mono hle, all2_mono' b2 fun c d hd hc => hr d hd c hc⟩⟩
instance relNd : RelM NdR := ⟨fun hle hx => NdR.mono' hle _ _ hx⟩
theorem NdR.mono {h h' : Hp} {b : Nat} {f : Fm} (hx : NdR h b f) (hle : Hle h h') : NdR h' b f := NdR.mono' hle _ _ hx
theorem NdR.text {h : Hp} {b : Nat} {f : Fm} (hx : NdR h b f) : PtAt h b 0 [Str (pr f)] := by
  obtain ⟨ql, qr, hp, _⟩ := NdR_iff.1 hx
  intro j v e
  cases j with
  | zero => exact hp 0 v e
  | succ j => simp at e
theorem NdR.l {h : Hp} {b : Nat} {f : Fm} (hx : NdR h b f) : ∃ q : SlH, PtAt h b 1 [slv q] ∧ RdF h (slv q) ePt 1 NdR f.L := by
  obtain ⟨ql, qr, hp, h1, h2⟩ := NdR_iff.1 hx
  refine ⟨ql, fun j v e => ?_, h1⟩
  cases j with
  | zero => exact hp 1 v e
  | succ j => simp at e
theorem NdR.r {h : Hp} {b : Nat} {f : Fm} (hx : NdR h b f) : ∃ q : SlH, PtAt h b 2 [slv q] ∧ RdF h (slv q) ePt 1 NdR f.R := by
  obtain ⟨ql, qr, hp, h1, h2⟩ := NdR_iff.1 hx
  refine ⟨qr, fun j v e => ?_, h2⟩
  cases j with
  | zero => exact hp 2 v e
  | succ j => simp at e
/-! ### The book -/
abbrev kS : List UInt8 → Value := fun s => Str s
abbrev kP : List UInt8 × List UInt8 → Value := fun p => .agg #[Str p.1, Str p.2]
abbrev vP : Nat → Value := fun b => ptr b 0
abbrev vBo : Bool → Value := fun b => .bool b
structure BkSt where
  n : List (List UInt8 × Nat)
  q : List ((List UInt8 × List UInt8) × Bool)
  c : List (List UInt8 × Nat)
structure BkI (h : Hp) (s : BkSt) : Prop where
  n : ∀ k b, mget s.n k = some b → ∃ f, k = pr f ∧ NdR h b f
  q : ∀ k v, mget s.q k = some v → ∃ f g, k = (pr f, pr g) ∧ v = leq f g
  c : ∀ k b, mget s.c k = some b → ∃ f, k = pr f ∧ NdR h b (canon f)
theorem BkI.mono {h h' : Hp} {s : BkSt} (hle : Hle h h') (hs : BkI h s) : BkI h' s :=
  ⟨fun k b e => by obtain ⟨f, h1, h2⟩ := hs.n k b e; exact ⟨f, h1, h2.mono hle⟩, hs.q, fun k b e => by obtain ⟨f, h1, h2⟩ := hs.c k b e; exact ⟨f, h1, h2.mono hle⟩⟩
/-- The book's block, its three maps. -/
structure Bk where
  b : Nat
  r1 : Nat
  r2 : Nat
  r3 : Nat
abbrev bkL (k : Bk) (s : BkSt) : List Itm := [.ob k.r1 (mO kS vP s.n), .ob k.r2 (mO kP vBo s.q), .ob k.r3 (mO kS vP s.c)]
abbrev bkV (k : Bk) : List Value := [.map (some k.r1), .map (some k.r2), .map (some k.r3)]
def BQ (k : Bk) : Hp → List Itm → Prop := fun h B => PtAt h k.b 0 (bkV k) ∧ ∃ s, BkI h s ∧ B = bkL k s
instance qmB {k : Bk} : QM (BQ k) := ⟨fun hle ⟨h0, s, h1, h2⟩ => ⟨h0.mono hle, s, h1.mono hle, h2⟩⟩
section
variable {w0 : World} {h0 h : Hp} {L : List Itm} {X : WP} {k : Bk}
theorem Bw.open (hk : ∀ h' s, Hle h h' → PtAt h' k.b 0 (bkV k) → BkI h' s → Gs w0 h0 h' (.ob k.r1 (mO kS vP s.n) :: .ob k.r2 (mO kP vBo s.q) :: .ob k.r3 (mO kS vP s.c) :: L) X) : Gw (BQ k) w0 h0 h L X :=
  Gw.open fun h' B hle hQ => by
    obtain ⟨hp, s, hs, rfl⟩ := hQ
    exact hk h' s hle hp hs
theorem Bw.close {L0 : List Itm} (s : BkSt) (hp : PtAt h k.b 0 (bkV k)) (hs : BkI h s) [hl : Sel L0 (.ob k.r1 (mO kS vP s.n) :: .ob k.r2 (mO kP vBo s.q) :: .ob k.r3 (mO kS vP s.c) :: L)] (hk : Gw (BQ k) w0 h0 h L X) : Gs w0 h0 h L0 X :=
  Gs.sel (L' := .ob k.r1 (mO kS vP s.n) :: .ob k.r2 (mO kP vBo s.q) :: .ob k.r3 (mO kS vP s.c) :: L) (Gw.close (B := bkL k s) ⟨hp, s, hs, rfl⟩ hk)
end
/-! ### Strings, and pairs of them, as keys -/
theorem beqS (a b : List UInt8) : ((⟨a.toArray⟩ : ByteArray) == ⟨b.toArray⟩) = decide (a = b) := by
  rw [beq_toListBytes]
  by_cases h : a = b <;> simp [h]
theorem strD {P : Program} {t : Nat} (ht : P.underlying t = some .string) (a b : List UInt8) (D : Nat) (w : World) : (Op.equalIn (D + 1) t (Str a) (Str b)).run P w = .ok (decide (a = b)) w := by
  rw [run_equalIn_string (w := w) D t _ _ ht]
  congr 1
  by_cases h : a = b <;> simp [h]
theorem ckS {P : Program} {t : Nat} (ht : P.underlying t = some .string) (a : List UInt8) (b : Bool) (D : Nat) (w : World) : (Instr.checkKey b (D + 1) t (Str a)).run P w = .ok () w := by
  unfold Instr.checkKey
  rw [Sem.run_bind, runU ht, Result.andThen_ok]
  rfl
instance keyS : KeyT Tryz.prog 9 kS := ⟨fun b k w => ckS Tryz.underlying9 k b 9999 w, ⟨.string, Tryz.underlying9, .inr fun k k' => by
  show some (_ == _) = _
  rw [beqS]⟩, fun k => by
  show ((⟨k.toArray⟩ : ByteArray) == ⟨k.toArray⟩) = true
  rw [beqS]; simp⟩
theorem partS (a b : List UInt8) (w : World) : (part 9 #[Str a, Str b] 0).run Tryz.prog w = .ok (Str a) w ∧ (part 9 #[Str a, Str b] 1).run Tryz.prog w = .ok (Str b) w :=
  ⟨run_part1 (cs := [Str a, Str b]) (off := 0) (v := Str a) Tryz.underlying9 rfl rfl, run_part1 (cs := [Str a, Str b]) (off := 1) (v := Str b) Tryz.underlying9 rfl rfl⟩
theorem pairFs : ∃ f0 f1 : Field, Tryz.prog.underlying 76 = some (.struct #[f0, f1]) ∧ f0.name ≠ "_" ∧ f0.type = 9 ∧ f0.offset = 0 ∧ f1.name ≠ "_" ∧ f1.type = 9 ∧ f1.offset = 1 := by
  have key : ∃ fs : Array Field, Tryz.prog.underlying 76 = some (.struct fs) ∧ (fs.toList.map fun f => (f.name == "_", f.type, f.offset)) = [(false, 9, 0), (false, 9, 1)] := ⟨Tryz.prog.fieldsOf 76, by kernel_rfl, by kernel_rfl⟩
  obtain ⟨⟨fs⟩, h1, h2⟩ := key
  match fs, h2 with
  | [f0, f1], h2 =>
    simp only [List.map_cons, List.map_nil, List.cons.injEq, Prod.mk.injEq, and_true, beq_eq_false_iff_ne] at h2
    exact ⟨f0, f1, h1, h2.1.1, h2.1.2.1, h2.1.2.2, h2.2.1, h2.2.2.1, h2.2.2.2⟩
  | [], h2 => simp at h2
  | [_], h2 => simp at h2
  | _ :: _ :: _ :: _, h2 => simp at h2
theorem eqP (p q : List UInt8 × List UInt8) (D : Nat) (w : World) : (Op.equalIn (D + 2) 76 (kP p) (kP q)).run Tryz.prog w = .ok (decide (p = q)) w := by
  obtain ⟨f0, f1, hu, a1, a2, a3, b1, b2, b3⟩ := pairFs
  have hfo : Tryz.prog.fieldsOf 76 = #[f0, f1] := by unfold Program.fieldsOf; rw [hu]
  rw [run_equalIn_struct w (D + 1) 76 _ _ (by rw [hfo]; exact hu) (by kernel_rfl), hfo]
  obtain ⟨p1, p2⟩ := p
  obtain ⟨q1, q2⟩ := q
  simp only [Op.eqFields, Sem.run_bind, a1, a2, a3, b1, b2, b3, (partS _ _ _).1, (partS _ _ _).2, Result.andThen_ok, strD Tryz.underlying9, ne_eq, not_false_eq_true, if_true]
  by_cases h1 : p1 = q1
  · by_cases h2 : p2 = q2 <;> simp [h1, h2, Sem.run_bind, (partS _ _ _).2, strD Tryz.underlying9, pure, Sem.run]
  · simp [h1, pure, Sem.run]
instance keyP : KeyT Tryz.prog 76 kP := by
  obtain ⟨f0, f1, hu, a1, a2, a3, b1, b2, b3⟩ := pairFs
  exact ⟨fun b k w => by
    unfold Instr.checkKey
    rw [Sem.run_bind, runU hu, Result.andThen_ok]
    obtain ⟨k1, k2⟩ := k
    have c1 := ckS Tryz.underlying9 k1 b 9998 w
    have c2 := ckS Tryz.underlying9 k2 b 9998 w
    simp only [List.forIn_toArray, List.forIn_cons, List.forIn_nil, Sem.run_bind, a1, a2, a3, b1, b2, b3, (partS _ _ _).1, (partS _ _ _).2, c1, c2, ne_eq, not_false_eq_true, if_true, Result.andThen_ok, run_pure], ⟨_, hu, .inl ⟨fun k k' => rfl, fun k k' w => eqP k k' 9998 w⟩⟩, fun k => by
    obtain ⟨k1, k2⟩ := k
    simp [Instr.sameBits, beqS]⟩
end Go.Proofs.YtgdochemlbjnlaaGreat
end

section
set_option linter.unusedVariables false
set_option linter.unusedSimpArgs false
set_option linter.unusedSectionVars false
set_option maxHeartbeats 4000000
namespace Go.Proofs.YtgdochemlbjnlaaGreat
open Go Go.Sk Go.Va Go.RowKit
variable {M : Go.Sk.Mode} {w0 : World} {h0 h : Hp} {L R R' : List Itm} {K : Value → WP}
instance tpB : TPtr Tryz.prog 97 99 2 := ⟨by kernel_rfl⟩
theorem run_noesc (x : Value) (w : World) : (vCall (.func (.func 92) #[] ⟨[]⟩) [x]).run Tryz.prog w = .ok (.value x) w := by
  have := run_callFunc_extern (P := Tryz.prog) (w := w) Tryz.func92 (by kernel_rfl) (by kernel_rfl) (by kernel_rfl) (e := Extern.AbiNoEscape.same) (by kernel_rfl) (args := #[x])
  rw [Lib.run_noEscape] at this
  unfold vCall Deferred.ofValue
  simp only [pure_bind]
  exact this
instance Yd.noesc {S : WP} {x : Value} : Yd Tryz.prog S (vCall (.func (.func 92) #[] ⟨[]⟩) [x]) x := ⟨fun w _ => run_noesc x w⟩
def BldP (b : Nat) (p : Value) : Prop := p = .pointer none ∨ p = ptr b 0
theorem cc_call {b : Nat} {p v : Value} {c : List Value} [hcv : Cells v [v]] [hfv : Flat [v]] (hp : BldP b p) [htk : TakeB L b [p, v] 99 R] (hk : Gs w0 h0 h (.blk b [ptr b 0, v] 99 :: R) (K (.tuple #[]))) : Gs w0 h0 h L (Do Tryz.prog (vCall (.func (.func 82) #[] ⟨[]⟩) [ptr b 0]) K) := by
  refine Gs.perm htk.perm ?_
  refine in82 ?_
  unfold s82
  rcases hp with rfl | rfl
  · refine G.step ?_
    refine G.step ?_
    refine G.step ?_
    refine G.step ?_
    refine G.ift ?_
    refine Gs.toU (cs := [.pointer none, v]) (by kernel_rfl) rfl ?_
    refine G.step ?_
    refine Gs.ofU (cs := [.pointer none, v]) (by kernel_rfl) (by kernel_rfl) ?_
    refine G.step ?_
    refine G.step ?_
    refine Gs.store ?_
    exact hk
  · refine G.step ?_
    refine G.step ?_
    refine G.step ?_
    refine G.step ?_
    refine G.iff ?_
    refine G.step ?_
    refine G.step ?_
    refine G.step ?_
    refine G.step ?_
    refine G.iff ?_
    exact hk
/-- A builder: its block, its buffer. -/
theorem wbyte_call {b : Nat} {p : Value} {q : SlH} {l : List UInt8} (c : UInt8) (hp : BldP b p) (hv : Hd0 (slv q)) [htk : TakeB L b [p, slv q] 99 R] [hts : TakeS R (slv q) 5 1 (fl eByte l) R'] (hl : l.length ≤ 1000000)
    (hk : ∀ q' : SlH, Hd0 (slv q') → Gs w0 h0 h (.blk b [ptr b 0, slv q'] 99 :: .sl (slv q') 5 1 (fl eByte (l ++ [c])) :: R') (K .nilIface)) : Gs w0 h0 h L (Do Tryz.prog (vCall (.func (.func 63) #[] ⟨[]⟩) [ptr b 0, .int .u8 c.toNat]) K) := by
  refine Gs.perm (htk.perm.trans ((hts.perm.cons _))) ?_
  refine in63 ?_
  unfold s63
  refine cc_call (c := []) hp ?_
  refine G.step ?_
  refine G.step ?_
  refine G.step ?_
  refine Gs.buildSlice (by decide) ?_
  intro tb
  haveI : SrcG Tryz.prog (St w0 h0 h (.sl (.slice (some ⟨tb, 0, none⟩) 1 1) 5 1 [.int .u8 c.toNat] :: .blk b [ptr b 0, slv q] 99 :: .sl (slv q) 5 1 (fl eByte l) :: R')) 1 22 (.slice (some ⟨tb, 0, none⟩) 1 1) (fl eByte [c]) := SrcG.ofOwn (e2 := 5) (by simp [fl, eByte]) (by decide)
  refine Gs.appendB (by rw [fl_len, fl_len]; simp; omega) (by rw [fl_len, fl_len]; simp; omega) ?_
  intro v' hv'
  have hd := hv' hv
  have : ∃ q' : SlH, v' = slv q' := by
    rcases hd with rfl | ⟨b', n', c', rfl, _⟩
    · exact ⟨(none, 0, 0), rfl⟩
    · exact ⟨(some ⟨b', 0, none⟩, n', c'), rfl⟩
  obtain ⟨q', rfl⟩ := this
  rw [← fl_append]
  refine G.step ?_
  refine G.step ?_
  refine Gs.store ?_
  exact Gs.sel (hk q' hd)
theorem wstr_call {b : Nat} {p : Value} {q : SlH} {l : List UInt8} (s : List UInt8) (hp : BldP b p) (hv : Hd0 (slv q)) [htk : TakeB L b [p, slv q] 99 R] [hts : TakeS R (slv q) 5 1 (fl eByte l) R'] (hl : l.length ≤ 100000000) (hs : s.length ≤ 100000000)
    (hk : ∀ q' : SlH, Hd0 (slv q') → Gs w0 h0 h (.blk b [ptr b 0, slv q'] 99 :: .sl (slv q') 5 1 (fl eByte (l ++ s)) :: R') (K (.tuple #[I s.length, .nilIface]))) : Gs w0 h0 h L (Do Tryz.prog (vCall (.func (.func 64) #[] ⟨[]⟩) [ptr b 0, Str s]) K) := by
  refine Gs.perm (htk.perm.trans ((hts.perm.cons _))) ?_
  refine in64 ?_
  unfold s64
  refine cc_call (c := []) hp ?_
  refine G.step ?_
  refine G.step ?_
  refine G.step ?_
  haveI : SrcG Tryz.prog (St w0 h0 h (.blk b [ptr b 0, slv q] 99 :: .sl (slv q) 5 1 (fl eByte l) :: R')) 1 9 (Str s) (fl eByte s) := SrcG.str
  refine Gs.appendB (by rw [fl_len, fl_len]; simp; omega) (by rw [fl_len, fl_len]; simp; omega) ?_
  intro v' hv'
  have hd := hv' hv
  have : ∃ q' : SlH, v' = slv q' := by
    rcases hd with rfl | ⟨b', n', c', rfl, _⟩
    · exact ⟨(none, 0, 0), rfl⟩
    · exact ⟨(some ⟨b', 0, none⟩, n', c'), rfl⟩
  obtain ⟨q', rfl⟩ := this
  rw [← fl_append]
  refine G.step ?_
  refine G.step ?_
  refine Gs.store ?_
  refine G.step ?_
  exact Gs.sel (hk q' hd)
theorem bstr_call {b : Nat} {p : Value} {q : SlH} {l : List UInt8} (hv : Hd0 (slv q)) [htk : TakeB L b [p, slv q] 99 R] [hts : TakeS R (slv q) 5 1 (fl eByte l) R'] (hl : l.length ≤ 9223372036854775807)
    (hk : Gs w0 h0 h R' (K (Str l))) : Gs w0 h0 h L (Do Tryz.prog (vCall (.func (.func 65) #[] ⟨[]⟩) [ptr b 0]) K) := by
  refine Gs.perm (htk.perm.trans ((hts.perm.cons _))) ?_
  refine in65 ?_
  unfold s65
  refine Gs.dr ?_
  refine G.qkp ?_
  refine G.qkp ?_
  refine Gs.qkb ?_
  refine G.qkp ?_
  refine G.qkp ?_
  refine Gs.qkb ?_
  refine Gs.qolen (enc := eByte) (l := l) hl ?_
  refine G.usd hv ?_
  intro u hu
  refine G.withT ?_
  refine Gs.withb ?_
  refine G.withT ?_
  refine G.withT ?_
  refine Gs.ustr hu (by kernel_rfl) (by kernel_rfl) hl ?_
  exact G.mono hk (fun w s => s.sub (List.sublist_cons_self _ _))
end Go.Proofs.YtgdochemlbjnlaaGreat
end

section
/-
  Values: the node of options: its text, found or entered in the book.
-/
set_option linter.unusedVariables false
set_option linter.unusedSimpArgs false
set_option linter.unusedSectionVars false
set_option maxHeartbeats 8000000
namespace Go.Proofs.YtgdochemlbjnlaaGreat
open Go Go.Sk Go.Va Go.RowKit
variable {M : Go.Sk.Mode}
/-- The texts of forms, with commas between them, but for the first i. -/
theorem prs_take (l : List Fm) (i : Nat) (hi : i < l.length) : prs (l.take (i + 1)) = prs (l.take i) ++ ((if 0 < i then [44] else []) ++ pr l[i]) := by
  have snoc : ∀ (l : List Fm) (x : Fm), prt (l ++ [x]) = prt l ++ (44 :: pr x) := by
    intro l x
    induction l with
    | nil => simp [prt]
    | cons y l ih => simp only [List.cons_append, prt, ih, List.append_assoc]
  rw [List.take_succ_eq_append_getElem hi]
  cases i with
  | zero => simp [prs, prt]
  | succ i =>
    cases l with
    | nil => simp at hi
    | cons y l => simp only [List.take_succ_cons, List.cons_append, prs, snoc]; simp
theorem prs_len_take (l : List Fm) (i : Nat) : (prs (l.take i)).length ≤ 4 * szs l := by
  have h1 := prs_len (l.take i)
  have h2 : szs (l.take i) ≤ szs l := szs_sublist (List.take_sublist i l)
  omega
theorem write_in {w0 : World} {h0 h : Hp} {L R R' : List Itm} {K : Value → WP} {b : Nat} {p : Value} {q : SlH} {t : List UInt8} (v : SlH) (l : List Fm) (hp : p = ptr b 0) (hv : Hd0 (slv q)) (hl : RdF h (slv v) ePt 1 NdR l) (hn : szs l ≤ 100000) (ht : t.length ≤ 500000)
    [htk : TakeB L b [p, slv q] 99 R] [hts : TakeS R (slv q) 5 1 (fl eByte t) R']
    (hk : ∀ q' : SlH, Hd0 (slv q') → Gs w0 h0 h (.blk b [ptr b 0, slv q'] 99 :: .sl (slv q') 5 1 (fl eByte (t ++ prs l)) :: R') (K (.tuple #[]))) :
    Gs w0 h0 h L (Do Tryz.prog (vCall (.func (.func 62) #[] ⟨[ptr b 0]⟩) [slv v]) K) := by
  subst hp
  refine Gs.perm (htk.perm.trans ((hts.perm.cons _))) ?_
  refine in62 ?_
  unfold s62
  have hll := len_le_szs l
  refine Gs.lenF hl (by omega) ?_
  refine Gs.lp (β := Nat × SlH) (fun u => I u.1) (fun _ => h) (fun u => .blk b [ptr b 0, slv u.2] 99 :: .sl (slv u.2) 5 1 (fl eByte (t ++ prs (l.take u.1))) :: R') (fun u => u.1 ≤ l.length ∧ Hd0 (slv u.2)) (fun u => l.length - u.1) (0, q) rfl ⟨Nat.zero_le _, hv⟩ (fun _ s => by simpa [prs] using s) ?_
  rintro ⟨i, u⟩ ⟨hi, hu⟩ cont hc
  dsimp only at hi hu hc ⊢
  (repeat (first | refine G.step ?_ | (refine G.jk ?_; intro _)))
  refine G.ifd ?_ ?_ <;> intro hlt
  · have hlt' : i < l.length := by omega
    have hpt := prs_take l i hlt'
    have hlen := prs_len_take l i
    have hlen1 := pr_len l[i]
    have hszi := sz_mem (List.getElem_mem hlt')
    refine Gs.indexF hl hlt' ?_
    intro b1 o1 x1 hp1 hx1
    refine Gs.loadE hp1 ?_
    refine G.jnk (fun (_ : Unit) S' => ∃ u' : SlH, Hd0 (slv u') ∧ S' = St w0 h0 h (.blk b [ptr b 0, slv u'] 99 :: .sl (slv u') 5 1 (fl eByte (t ++ prs (l.take i) ++ (if 0 < i then [44] else []))) :: R')) ?_ ?_
    · rintro _ _ ⟨u', hu', rfl⟩
      refine G.jk ?_; intro _
      (repeat (refine G.step ?_))
      refine Gs.loadP1 hx1.text ?_
      refine wstr_call (pr l[i]) (.inr rfl) hu' (by simp; split <;> simp <;> omega) (by omega) ?_
      intro q2 hq2
      (repeat (refine G.add (by omega) ?_))
      refine Gs.go (t' := I ((i + 1 : Nat) : Int)) ?_ (by simp)
      have := hc (i + 1, q2) ⟨by dsimp only; omega, hq2⟩ (by dsimp only; omega)
      rw [hpt] at this
      simpa only [List.append_assoc] using this
    · intro k' hk'
      (repeat (refine G.step ?_))
      refine G.ifd ?_ ?_ <;> intro hpos
      · refine wbyte_call (b := b) (q := u) 44 (.inr rfl) hu (by simp; omega) ?_
        intro q2 hq2
        exact hk' () _ ⟨q2, hq2, by rw [if_pos (by omega)]⟩
      · refine hk' () _ ⟨u, hu, by rw [if_neg (by omega), List.append_nil]⟩
  · have hi' : i = l.length := by omega
    subst hi'
    rw [List.take_length]
    exact hk u hu
theorem pr_mk (l r : List Fm) : pr (.mk l r) = [] ++ [123] ++ prs l ++ [124] ++ prs r ++ [125] := by simp [pr]
end Go.Proofs.YtgdochemlbjnlaaGreat
end

section
/-
  Values: make: the node of options, found or entered in the book; forms entered; the form of a node.
-/
set_option linter.unusedVariables false
set_option linter.unusedSimpArgs false
set_option linter.unusedSectionVars false
set_option maxHeartbeats 8000000
namespace Go.Proofs.YtgdochemlbjnlaaGreat
open Go Go.Sk Go.Va Go.RowKit
variable {M : Go.Sk.Mode} {w0 : World} {h0 h : Hp} {L : List Itm} {K : Value → WP} {k : Bk}
theorem make_ok (ql qr : SlH) (l r : List Fm) (hl : RdF h (slv ql) ePt 1 NdR l) (hr : RdF h (slv qr) ePt 1 NdR r) (hn : szs l + szs r ≤ 100000)
    (hk : ∀ b h', Hle h h' → NdR h' b (.mk l r) → Gw (BQ k) w0 h0 h' L (K (ptr b 0))) : Gw (BQ k) w0 h0 h L (Do Tryz.prog (vCall (.func (.func 44) #[] ⟨[]⟩) [ptr k.b 0, slv ql, slv qr]) K) := by
  refine in44 ?_
  unfold s44
  refine Bw.open ?_
  intro h1 s le1 hb hs
  have hl1 := hl.mono le1
  have hr1 := hr.mono le1
  have n1 := prs_len l
  have n2 := prs_len r
  refine Gs.alloc ?_; intro wb
  refine Gs.nilsl 5 1 ?_
  refine wbyte_call (b := wb) (q := (none, 0, 0)) (l := []) 123 (.inl rfl) (.inl rfl) (by simp) ?_
  intro q1 hq1
  refine write_in ql l rfl hq1 hl1 (by omega) (by simp) ?_
  intro q2 hq2
  refine wbyte_call (b := wb) (q := q2) 124 (.inr rfl) hq2 (by simp; omega) ?_
  intro q3 hq3
  refine write_in qr r rfl hq3 hr1 (by omega) (by simp; omega) ?_
  intro q4 hq4
  refine wbyte_call (b := wb) (q := q4) 125 (.inr rfl) hq4 (by simp; omega) ?_
  intro q5 hq5
  refine bstr_call hq5 (by simp; omega) ?_
  rw [← pr_mk]
  (repeat (refine G.step ?_))
  refine Gs.loadP1 hb ?_
  refine Gs.lookup2 (ek := kS) (ev := vP) (l := s.n) (pr (.mk l r)) rfl ?_
  (repeat (refine G.step ?_))
  cases hm : mget s.n (pr (.mk l r)) with
  | some nb =>
    obtain ⟨f, hf, hnd⟩ := hs.n _ _ hm
    have := pr_inj hf
    subst this
    (repeat (refine G.ift ?_))
    rw [show lk1 vP (.pointer none) s.n (pr (.mk l r)) = ptr nb 0 by unfold lk1; rw [hm]; rfl]
    exact Bw.close (k := k) s hb hs (hk nb h1 le1 hnd)
  | none =>
    refine G.iff ?_
    (repeat (first | refine G.step ?_ | (refine Gs.box ?_; intro _)))
    rename_i nb
    refine Gs.loadP1 hb ?_
    refine Gs.mapUpdate (ek := kS) (ev := vP) (pr (.mk l r)) nb rfl rfl ?_
    refine Gs.freezeB nb ?_
    intro h2 le2 hp2
    have hnd : NdR h2 nb (.mk l r) := NdR_iff.2 ⟨ql, qr, hp2, hl1.mono le2, hr1.mono le2⟩
    refine Bw.close (k := k) ⟨mset s.n (pr (.mk l r)) nb, s.q, s.c⟩ (hb.mono le2) ⟨fun k' b' e => ?_, hs.q, (hs.mono le2).c⟩ (hk nb h2 (le1.trans le2) hnd)
    dsimp only at e
    rw [mget_mset] at e
    split at e
    · rename_i e2
      cases e
      exact ⟨_, e2, hnd⟩
    · exact (hs.mono le2).n k' b' e
end Go.Proofs.YtgdochemlbjnlaaGreat
end

section
/-
  Values: forms entered in the book.
-/
set_option linter.unusedVariables false
set_option linter.unusedSimpArgs false
set_option linter.unusedSectionVars false
set_option maxHeartbeats 8000000
namespace Go.Proofs.YtgdochemlbjnlaaGreat
open Go Go.Sk Go.Va Go.RowKit
variable {M : Go.Sk.Mode}
/-- What entering a form does. -/
def EntP [M : Go.Sk.Mode] (w0 : World) (h0 : Hp) (k : Bk) (f : Fm) : Prop := ∀ (h : Hp) (L : List Itm) (K : Value → WP) (x : FmH), FmR h x f →
  (∀ b h', Hle h h' → NdR h' b f → Gw (BQ k) w0 h0 h' L (K (ptr b 0))) → Gw (BQ k) w0 h0 h L (Do Tryz.prog (vCall (.func (.func 28) #[] ⟨[]⟩) [ptr k.b 0, vF x]) K)
theorem all_of {w0 : World} {h0 h : Hp} {L : List Itm} {K : Value → WP} {k : Bk} (l : List Fm) (v : SlH) (hl : RdF h (slv v) eFH 2 FmR l) (hn : l.length ≤ 100000) (hent : ∀ f ∈ l, EntP w0 h0 k f)
    (hk : ∀ (q : SlH) h', Hle h h' → RdF h' (slv q) ePt 1 NdR l → Gw (BQ k) w0 h0 h' L (K (slv q))) : Gw (BQ k) w0 h0 h L (Do Tryz.prog (vCall (.func (.func 48) #[] ⟨[]⟩) [ptr k.b 0, slv v]) K) := by
  refine in48 ?_
  unfold s48
  refine G.lenF hl (by omega) ?_
  refine Gw.nilsl 49 1 ?_
  refine G.lpG (β := Nat × SlH × Hp × List Nat) (fun u => (slv u.2.1, I u.1)) (fun u => OW (BQ k) w0 h0 u.2.2.1 (.sl (slv u.2.1) 49 1 (fl ePt u.2.2.2) :: L)) (fun u => u.1 ≤ l.length ∧ Hle h u.2.2.1 ∧ All2 (NdR u.2.2.1) u.2.2.2 (l.take u.1)) (fun u => l.length - u.1) (0, (none, 0, 0), h, []) rfl ⟨Nat.zero_le _, Hle.refl h, by simp; exact .nil⟩ (fun _ s => s) ?_
  rintro ⟨i, q, hh, bs⟩ ⟨hi, hle, hbs⟩ cont hc
  dsimp only at hi hle hbs hc ⊢
  have hlen : bs.length = i := by rw [hbs.len]; simp; omega
  (repeat (first | refine G.step ?_ | (refine G.jk ?_; intro _)))
  refine G.ifd ?_ ?_ <;> intro hlt
  · have hlt' : i < l.length := by omega
    have htake := List.take_succ_eq_append_getElem hlt'
    refine G.indexF (hl.mono hle) hlt' ?_
    intro b1 o1 x1 hp1 hx1
    refine G.loadE hp1 ?_
    have hmem : l[i] ∈ l := List.getElem_mem hlt'
    (repeat (first | refine G.step ?_ | (refine Gw.alloc ?_; intro _) | refine Gw.store ?_))
    refine hent _ hmem hh _ _ x1 hx1 ?_
    intro nb h2 le2 hnd
    refine Gw.push (enc := ePt) (l := bs) (a := nb) (by decide) (by decide) (by omega) (by omega) ?_
    intro s' q2
    (repeat (refine G.add (by omega) ?_))
    refine Gw.sel (L' := .sl (slv q2) 49 1 (fl ePt (bs ++ [nb])) :: L) ?_
    refine G.goE (hc (i + 1, q2, h2, bs ++ [nb]) ⟨by dsimp only; omega, hle.trans le2, ?_⟩ (by dsimp only; omega)) (by simp)
    dsimp only
    rw [htake]
    exact (hbs.monoR le2).snoc hnd
  · have hi' : i = l.length := by omega
    subst hi'
    rw [List.take_length] at hbs
    refine Gw.freezeE (enc := ePt) (v := slv q) (by decide) ?_
    intro h2 le2 hr
    exact hk q h2 (hle.trans le2) ⟨bs, hr, hbs.monoR le2⟩
theorem enter_ok (w0 : World) (h0 : Hp) (k : Bk) : ∀ (n : Nat) (f : Fm), sz f ≤ n → n ≤ 100000 → EntP w0 h0 k f := by
  intro n
  induction n with
  | zero => intro f hf; have := sz_pos f; omega
  | succ n ih =>
    intro f hf hn h L K x hx hk
    refine in28 ?_
    unfold s28
    have hl := lenL f
    have hr := lenR f
    have hsz := sz_eq f
    (repeat (first | (refine Gw.box ?_; intro _) | refine Gw.dr ?_ | refine Gw.qkb ?_ | refine G.qkp ?_))
    refine all_of f.L x.1 hx.l (by omega) (fun g hg => ih g (by have := sz_L hg; omega) (by omega)) ?_
    intro ql h1 le1 hql
    (repeat (first | refine Gw.withb ?_ | refine G.withT ?_))
    refine all_of f.R x.2 (hx.r.mono le1) (by omega) (fun g hg => ih g (by have := sz_R hg; omega) (by omega)) ?_
    intro qr h2 le2 hqr
    refine make_ok ql qr f.L f.R (hql.mono le2) hqr (by omega) ?_
    intro b h3 le3 hnd
    rw [Fm.eta] at hnd
    exact Gw.sel (hk b h3 (le1.trans (le2.trans le3)) hnd)
end Go.Proofs.YtgdochemlbjnlaaGreat
end

section
/-
  Values: an empty book; the form of a node; texts.
-/
set_option linter.unusedVariables false
set_option linter.unusedSimpArgs false
set_option linter.unusedSectionVars false
set_option maxHeartbeats 8000000
namespace Go.Proofs.YtgdochemlbjnlaaGreat
open Go Go.Sk Go.Va Go.RowKit
variable {M : Go.Sk.Mode}
theorem open_ok {w0 : World} {h0 h : Hp} {L : List Itm} {K : Value → WP} (hk : ∀ (k : Bk) h', Hle h h' → Gw (BQ k) w0 h0 h' L (K (ptr k.b 0))) : Gs w0 h0 h L (Do Tryz.prog (vCall (.func (.func 26) #[] ⟨[]⟩) []) K) := by
  refine in26 ?_
  unfold s26
  refine Gs.makeMap0 ?_; intro r1
  refine Gs.makeMap0 ?_; intro r2
  refine Gs.makeMap0 ?_; intro r3
  (repeat (first | refine G.step ?_ | (refine Gs.box ?_; intro _)))
  rename_i b
  refine Gs.freezeB b ?_
  intro h1 le1 hp
  refine Gs.sel (L' := .ob r1 (.map #[] 0) :: .ob r2 (.map #[] 0) :: .ob r3 (.map #[] 0) :: L) ?_
  show Gs w0 h0 h1 (.ob r1 (mO kS vP []) :: .ob r2 (mO kP vBo []) :: .ob r3 (mO kS vP []) :: L) _
  exact Bw.close (k := ⟨b, r1, r2, r3⟩) ⟨[], [], []⟩ hp ⟨fun k b e => by simp [mget] at e, fun k b e => by simp [mget] at e, fun k b e => by simp [mget] at e⟩ (hk ⟨b, r1, r2, r3⟩ h1 le1)
def FormOk [M : Go.Sk.Mode] (f : Fm) : Prop := ∀ (h : Hp) (b : Nat), NdR h b f → Ct Tryz.prog 32 [ptr b 0] h (fun h' v => ∃ x : FmH, v = vF x ∧ FmR h' x f)
theorem form_ok : ∀ (n : Nat) (f : Fm), sz f ≤ n → n ≤ 100000 → FormOk (M := M) f := by
  intro n
  induction n with
  | zero => intro f hf; have := sz_pos f; omega
  | succ n ih =>
    intro f hf hn h b hb
    have hl := lenL f
    have hr := lenR f
    obtain ⟨ql, hp1, hql⟩ := hb.l
    obtain ⟨qr, hp2, hqr⟩ := hb.r
    refine ct32 ?_
    intro w0
    unfold s32
    (repeat (first | refine G.step ?_ | (refine Gs.alloc ?_; intro _)))
    rename_i rb fb
    refine Gs.loadP1 hp1 ?_
    refine Gs.lenF hql (by omega) ?_
    refine Gs.nilsl 28 2 ?_
    refine Gs.lp (β := Nat × SlH × Hp × List FmH) (fun u => I u.1) (fun u => u.2.2.1) (fun u => [.sl (slv u.2.1) 28 2 (fl eFH u.2.2.2), .blk fb [slv u.2.1, .slice none 0 0] 28, .blk rb [.slice none 0 0, .slice none 0 0] 28]) (fun u => u.1 ≤ f.L.length ∧ Hle h u.2.2.1 ∧ All2 (FmR u.2.2.1) u.2.2.2 (f.L.take u.1)) (fun u => f.L.length - u.1) (0, (none, 0, 0), h, []) rfl ⟨Nat.zero_le _, Hle.refl h, by simp; exact .nil⟩ (fun _ s => s) ?_
    rintro ⟨i, q, hh, xs⟩ ⟨hi, hle, hxs⟩ cont hc
    dsimp only at hi hle hxs hc ⊢
    have hlen : xs.length = i := by rw [hxs.len]; simp; omega
    (repeat (first | refine G.step ?_ | (refine G.jk ?_; intro _)))
    refine G.ifd ?_ ?_ <;> intro hlt
    · have hlt' : i < f.L.length := by omega
      have htake := List.take_succ_eq_append_getElem hlt'
      refine Gs.indexF (hql.mono hle) hlt' ?_
      intro b1 o1 x1 hpx hx1
      refine Gs.loadE hpx ?_
      have hmem : f.L[i] ∈ f.L := List.getElem_mem hlt'
      (repeat (first | refine Gs.dr ?_ | refine G.qkp ?_ | refine Gs.qkb ?_))
      refine Gs.call0 (ih _ (by have := sz_L hmem; omega) (by omega) hh x1 hx1) ?_
      rintro _ h2 le2 ⟨y, rfl, hy⟩
      (repeat (first | refine G.withT ?_ | refine Gs.withb ?_))
      refine Gs.buildSlice (out := eFH y) (by decide) ?_
      intro eb
      (repeat (first | refine G.withT ?_ | refine Gs.withb ?_))
      refine Gs.appendO (enc := eFH) (l := xs) (m := [y]) (e2 := 28) (by simp [fl]) (by simp; omega) (by simp; omega) ?_
      intro v'
      refine Gs.slH (v := v') ?_
      rintro q2 rfl
      (repeat (first | refine G.add (by omega) ?_ | refine Gs.store ?_ | refine G.qkp ?_))
      refine Gs.goS (hc (i + 1, q2, h2, xs ++ [y]) ⟨by dsimp only; omega, hle.trans le2, ?_⟩ (by dsimp only; omega)) (by simp)
      dsimp only
      rw [htake]
      exact (hxs.monoR le2).snoc hy
    · have hi' : i = f.L.length := by omega
      subst hi'
      rw [List.take_length] at hxs
      clear hc cont hlt hi
      refine Gs.freezeE (enc := eFH) (v := slv q) (by decide) ?_
      intro h1 le1 hfr
      have hle1 := hle.trans le1
      have hL : RdF h1 (slv q) eFH 2 FmR f.L := ⟨xs, hfr, hxs.monoR le1⟩
      (repeat (refine G.step ?_))
      refine Gs.loadP1 (hp2.mono hle1) ?_
      refine Gs.lenF (hqr.mono hle1) (by omega) ?_
      refine Gs.nilsl 28 2 ?_
      refine Gs.lp (β := Nat × SlH × Hp × List FmH) (fun u => I u.1) (fun u => u.2.2.1) (fun u => [.sl (slv u.2.1) 28 2 (fl eFH u.2.2.2), .blk fb [slv q, slv u.2.1] 28, .blk rb [.slice none 0 0, .slice none 0 0] 28]) (fun u => u.1 ≤ f.R.length ∧ Hle h1 u.2.2.1 ∧ All2 (FmR u.2.2.1) u.2.2.2 (f.R.take u.1)) (fun u => f.R.length - u.1) (0, (none, 0, 0), h1, []) rfl ⟨Nat.zero_le _, Hle.refl h1, by simp; exact .nil⟩ (fun _ s => s) ?_
      rintro ⟨i, q', hh, xs⟩ ⟨hi, hle, hxs⟩ cont hc
      dsimp only at hi hle hxs hc ⊢
      have hlen : xs.length = i := by rw [hxs.len]; simp; omega
      (repeat (first | refine G.step ?_ | (refine G.jk ?_; intro _)))
      refine G.ifd ?_ ?_ <;> intro hlt
      · have hlt' : i < f.R.length := by omega
        have htake := List.take_succ_eq_append_getElem hlt'
        refine Gs.indexF (hqr.mono (hle1.trans hle)) hlt' ?_
        intro b1 o1 x1 hpx hx1
        refine Gs.loadE hpx ?_
        have hmem : f.R[i] ∈ f.R := List.getElem_mem hlt'
        (repeat (first | refine Gs.dr ?_ | refine G.qkp ?_ | refine Gs.qkb ?_))
        refine Gs.call0 (ih _ (by have := sz_R hmem; omega) (by omega) hh x1 hx1) ?_
        rintro _ h2 le2 ⟨y, rfl, hy⟩
        (repeat (first | refine G.withT ?_ | refine Gs.withb ?_))
        refine Gs.buildSlice (out := eFH y) (by decide) ?_
        intro eb
        (repeat (first | refine G.withT ?_ | refine Gs.withb ?_))
        refine Gs.appendO (enc := eFH) (l := xs) (m := [y]) (e2 := 28) (by simp [fl]) (by simp; omega) (by simp; omega) ?_
        intro v'
        refine Gs.slH (v := v') ?_
        rintro q2 rfl
        (repeat (first | refine G.add (by omega) ?_ | refine Gs.store ?_ | refine G.qkp ?_))
        refine Gs.goS (hc (i + 1, q2, h2, xs ++ [y]) ⟨by dsimp only; omega, hle.trans le2, ?_⟩ (by dsimp only; omega)) (by simp)
        dsimp only
        rw [htake]
        exact (hxs.monoR le2).snoc hy
      · have hi' : i = f.R.length := by omega
        subst hi'
        rw [List.take_length] at hxs
        refine Gs.freezeE (enc := eFH) (v := slv q') (by decide) ?_
        intro h2 le2 hfr2
        (repeat (first | refine G.step ?_ | refine Gs.store ?_ | refine G.retc ?_))
        exact Gs.ret ⟨(q, q'), rfl, FmR_iff.2 ⟨hL.mono (hle.trans le2), ⟨xs, hfr2, hxs.monoR le2⟩⟩⟩
theorem print_ok (f : Fm) (x : FmH) (h : Hp) (hx : FmR h x f) (hn : sz f ≤ 100000) : Ct Tryz.prog 10 [vF x] h (fun _ v => v = Str (pr f)) := by
  refine ct10 ?_
  intro w0
  unfold s10
  (repeat (first | (refine Gs.box ?_; intro _) | refine Gs.dr ?_ | refine Gs.qkb ?_))
  refine open_ok ?_
  intro k h1 le1
  (repeat (refine Gw.withb ?_))
  refine enter_ok w0 h k (sz f) f (Nat.le_refl _) hn h1 _ _ x (hx.mono le1) ?_
  intro b h2 le2 hb
  (repeat (refine G.qkp ?_))
  refine G.qld1 hb.text ?_
  exact Gw.ret fun h' _ => rfl
end Go.Proofs.YtgdochemlbjnlaaGreat
end

section
/-
  Values: the order of two nodes, kept in the book.
-/
set_option linter.unusedVariables false
set_option linter.unusedSimpArgs false
set_option linter.unusedSectionVars false
set_option maxHeartbeats 8000000
namespace Go.Proofs.YtgdochemlbjnlaaGreat
open Go Go.Sk Go.Va Go.RowKit
variable {M : Go.Sk.Mode}
theorem Gs.qlookup2 {κ β : Type} [DecidableEq κ] {ek : κ → Value} {ev : β → Value} {P : Program} {t tk te : TypeId} {l : List (κ × β)} {r : Nat} {z : Value} {w0 : World} {h0 h : Hp} {L : List Itm} {KQ : WP → Value → WP} (k : κ) [ht : TMap P t tk te] [hkt : KeyT P tk ek] [hz : TZv P te z] [ho : Ob L r (mO ek ev l)] {key : Value} (hkey : key = ek k) (hk : Gs w0 h0 h L (KQ (ObC r (mO ek ev l)) (.tuple #[lk1 ev z l k, .bool (mget l k).isSome]))) : Gs w0 h0 h L (Qk P (V (Instr.lookup t (.map (some r)) key true)) KQ) :=
  haveI := Yd.lookup (P := P) (S := ObC r (mO ek ev l)) (t := t) (ev := ev) hkey true (fun w s => s)
  G.qk (ObC r (mO ek ev l)) (fun w s => s.obj ho.mem) hk
theorem not_any {α : Type} (p : α → Bool) (l : List α) : (!l.any p) = l.all fun x => !p x := by
  induction l with
  | nil => rfl
  | cons x l ih => simp only [List.any_cons, List.all_cons, Bool.not_or, ih]
theorem bk1 {h : Hp} {k : Bk} (hb : PtAt h k.b 0 (bkV k)) : PtAt h k.b 1 [.map (some k.r2), .map (some k.r3)] := fun j v e => by
  have := hb (1 + j) v (by rw [Nat.add_comm]; simpa using e)
  rwa [Nat.zero_add] at this
theorem bk2 {h : Hp} {k : Bk} (hb : PtAt h k.b 0 (bkV k)) : PtAt h k.b 2 [.map (some k.r3)] := fun j v e => by
  have := hb (2 + j) v (by rw [Nat.add_comm]; simpa using e)
  rwa [Nat.zero_add] at this
/-- What comparing two nodes does. -/
def MostP [M : Go.Sk.Mode] (w0 : World) (h0 : Hp) (k : Bk) (f g : Fm) : Prop := ∀ (h : Hp) (L : List Itm) (K : Value → WP) (bx b_y : Nat), NdR h bx f → NdR h b_y g →
  Gw (BQ k) w0 h0 h L (K (.bool (leq f g))) → Gw (BQ k) w0 h0 h L (Do Tryz.prog (vCall (.func (.func 27) #[] ⟨[]⟩) [ptr k.b 0, ptr bx 0, ptr b_y 0]) K)
section
variable {w0 : World} {h0 h : Hp} {L : List Itm} {K : Value → WP} {k : Bk}
theorem contW_in {b1 y3 b_y : Nat} (v : SlH) (l : List Fm) (g : Fm) [Blk L b1 [ptr k.b 0] 46] [Blk L y3 [ptr b_y 0] 49] (hl : RdF h (slv v) ePt 1 NdR l) (hn : l.length ≤ 100000) (hg : NdR h b_y g) (hm : ∀ z ∈ l, MostP w0 h0 k g z)
    (hk : Gw (BQ k) w0 h0 h L (K (.bool (l.any fun z => leq g z)))) : Gw (BQ k) w0 h0 h L (Do Tryz.prog (vCall (.func (.func 47) #[] ⟨[]⟩) [slv v, .func (.func 45) #[] ⟨[ptr b1 0, ptr y3 0]⟩]) K) := by
  refine in47 ?_
  unfold s47
  refine in66 ?_
  unfold s66
  refine sIdxG_ok (h := h) (t := 51) (e := 49) (enc := ePt) (val := fun b => ptr b 0) (fun z => leq g z) hl (by omega) (fun K x z hx hz hk => ?_) ?_
  · refine in45 ?_
    unfold s45
    (repeat (refine G.step ?_))
    exact hm z hz h _ _ b_y x hg hx hk
  · refine G.step ?_
    rw [idxOf_any]
    exact hk
theorem contB_in {b1 x2 bx : Nat} (v : SlH) (l : List Fm) (f : Fm) [Blk L b1 [ptr k.b 0] 46] [Blk L x2 [ptr bx 0] 49] (hl : RdF h (slv v) ePt 1 NdR l) (hn : l.length ≤ 100000) (hf : NdR h bx f) (hm : ∀ z ∈ l, MostP w0 h0 k z f)
    (hk : Gw (BQ k) w0 h0 h L (K (.bool (l.any fun z => leq z f)))) : Gw (BQ k) w0 h0 h L (Do Tryz.prog (vCall (.func (.func 47) #[] ⟨[]⟩) [slv v, .func (.func 46) #[] ⟨[ptr b1 0, ptr x2 0]⟩]) K) := by
  refine in47 ?_
  unfold s47
  refine in66 ?_
  unfold s66
  refine sIdxG_ok (h := h) (t := 51) (e := 49) (enc := ePt) (val := fun b => ptr b 0) (fun z => leq z f) hl (by omega) (fun K x z hx hz hk => ?_) ?_
  · refine in46 ?_
    unfold s46
    (repeat (refine G.step ?_))
    exact hm z hz h _ _ x bx hx hf hk
  · refine G.step ?_
    rw [idxOf_any]
    exact hk
end
theorem most_ok (w0 : World) (h0 : Hp) (k : Bk) : ∀ (n : Nat) (f g : Fm), sz f + sz g ≤ n → n ≤ 100000 → MostP w0 h0 k f g := by
  intro n
  induction n with
  | zero => intro f g hf; have := sz_pos f; omega
  | succ n ih =>
    intro f g hf hn h L K bx b_y hx hy hk
    have hl := lenL f
    have hr := lenR g
    have hle := leq_eq f g
    rw [← not_any, ← not_any] at hle
    refine in27 ?_
    unfold s27
    (repeat (first | (refine Gw.box ?_; intro _) | refine Gw.dr ?_ | refine Gw.qkb ?_ | refine G.qkp ?_))
    rename_i bb xb yb
    refine G.qld1 hx.text ?_
    (repeat (first | refine Gw.qkb ?_ | refine G.qkp ?_))
    refine G.qld1 hy.text ?_
    (repeat (first | (refine Gw.alloc ?_; intro _) | refine Gw.store ?_ | refine Gw.dr ?_ | refine Gw.qkb ?_ | refine Gw.withb ?_ | refine G.withF (Hle.refl _) ?_ | refine G.qkp ?_ | refine G.withT ?_))
    rename_i pb
    refine Bw.open ?_
    intro h1 s le1 hb hs
    refine Gs.qloadP1 (bk1 hb) ?_
    (repeat (refine Gs.qkb ?_))
    refine Gs.qlookup2 (ek := kP) (ev := vBo) (l := s.q) (pr f, pr g) rfl ?_
    (repeat (refine G.qkp ?_))
    cases hm : mget s.q (pr f, pr g) with
    | some v =>
      obtain ⟨f', g', e1, e2⟩ := hs.q _ _ hm
      simp only [Prod.mk.injEq] at e1
      have e3 := pr_inj e1.1
      have e4 := pr_inj e1.2
      subst e3 e4 e2
      (repeat (refine G.ift ?_))
      rw [show lk1 vBo (.bool false) s.q (pr f, pr g) = .bool (leq f g) by unfold lk1; rw [hm]; rfl]
      exact Bw.close (k := k) (L := L) s hb hs (Gw.weak le1 hk)
    | none =>
      refine G.iff ?_
      have hx1 := hx.mono le1
      have hy1 := hy.mono le1
      refine Bw.close (k := k) (L := .blk pb [Str (pr f), Str (pr g)] 76 :: .blk yb [ptr b_y 0] 49 :: .blk xb [ptr bx 0] 49 :: .blk bb [ptr k.b 0] 46 :: L) s hb hs ?_
      refine G.jnP (fun j => j = .bool (leq f g)) ?_ ?_
      · rintro _ rfl
        refine G.jk ?_; intro _
        refine Gw.dr ?_
        refine Bw.open ?_
        intro h2 s2 le2 hb2 hs2
        (repeat (first | refine G.qkp ?_ | refine Gs.qkb ?_))
        refine Gs.qloadP1 (bk1 hb2) ?_
        (repeat (refine Gs.qkb ?_))
        refine Gs.mapUpdate (ek := kP) (ev := vBo) (pr f, pr g) (leq f g) rfl rfl ?_
        refine Bw.close (k := k) (L := L) ⟨s2.n, mset s2.q (pr f, pr g) (leq f g), s2.c⟩ hb2 ⟨hs2.n, fun k' v e => ?_, hs2.c⟩ (Gw.weak (le1.trans le2) hk)
        dsimp only at e
        rw [mget_mset] at e
        split at e
        · rename_i e2
          cases e
          exact ⟨f, g, e2, rfl⟩
        · exact hs2.q k' v e
      · intro K2 hK2
        obtain ⟨ql, hpl, hql⟩ := hx1.l
        obtain ⟨qr, hpr, hqr⟩ := hy1.r
        (repeat (refine G.step ?_))
        refine G.ld1 hpl ?_
        refine contW_in (b1 := bb) (y3 := yb) ql f.L g hql (by omega) hy1 (fun z hz => ih g z (by have := sz_L hz; omega) (by omega)) ?_
        (repeat (refine G.step ?_))
        refine G.gdbt ?_ ?_ <;> intro c1
        · (repeat (refine G.step ?_))
          refine G.ld1 hpr ?_
          refine contB_in (b1 := bb) (x2 := xb) qr g.R f hqr (by omega) hx1 (fun z hz => ih z f (by have := sz_R hz; omega) (by omega)) ?_
          (repeat (refine G.step ?_))
          refine hK2 _ ?_
          rw [hle, c1, Bool.true_and]
        · refine hK2 _ ?_
          rw [hle, c1, Bool.false_and]
end Go.Proofs.YtgdochemlbjnlaaGreat
end

section
/-
  Values: lists of nodes joined; reversible options bypassed.
-/
set_option linter.unusedVariables false
set_option linter.unusedSimpArgs false
set_option linter.unusedSectionVars false
set_option maxHeartbeats 8000000
namespace Go.Proofs.YtgdochemlbjnlaaGreat
open Go Go.Sk Go.Va Go.RowKit
variable {M : Go.Sk.Mode}
abbrev eOp : Option Nat → List Value := fun x => match x with | none => [.pointer none] | some b => [ptr b 0]
instance encOp : Enc eOp 1 := ⟨fun x => by cases x <;> rfl, fun a v h => by
  cases a <;> (simp only [eOp, List.mem_singleton] at h; subst h; rfl)⟩
theorem grow_call {w0 : World} {h0 h : Hp} {L : List Itm} {K : Value → WP} (n : Nat) (hn : n ≤ 10000000) (hk : ∀ v, Gs w0 h0 h (.sl v 49 1 (fl ePt []) :: L) (K v)) : Gs w0 h0 h L (Do Tryz.prog (vCall (.func (.func 83) #[] ⟨[]⟩) [.slice none 0 0, I n]) K) := by
  refine in83 ?_
  unfold s83
  refine G.jn ?_
  (repeat (first | refine G.sub (by omega) ?_ | refine G.step ?_ | refine G.iff ?_ | (refine G.jk ?_; intro _)))
  simp only [Int.sub_zero]
  refine G.ifd ?_ ?_ <;> intro hp
  · (repeat (refine G.step ?_))
    refine Gs.appendZ (enc := eOp) (a0 := none) rfl (by omega) (by omega) (by omega) ?_
    intro v'
    (repeat (refine G.step ?_))
    refine Gs.cutO (enc := eOp) (l := List.replicate n none) (lo := none) (hi := some 0) (by simp [cutLo]) (by simp [cutHi]) (fun i h => (by cases h)) (fun i h => by cases h; decide) ?_
    intro v''
    exact hk v''
  · exact Gs.nilsl 49 1 (hk _)
def ptsR : Hp → SlH → List Nat → Prop := fun h x l => RdE h (slv x) ePt 1 l
instance : RelM ptsR := ⟨fun hle hr => RdE.mono hle hr⟩
theorem concat_ok (a b c : SlH) (la lb lc : List Nat) (v : Value) (h : Hp) (hv : RdE h v eSlH 1 [a, b, c]) (ha : RdE h (slv a) ePt 1 la) (hb : RdE h (slv b) ePt 1 lb) (hc : RdE h (slv c) ePt 1 lc) (hs : la.length ≤ 1100000 ∧ lb.length ≤ 1100000 ∧ lc.length ≤ 1100000) :
    Ct Tryz.prog 68 [v] h (fun h' r => ∃ q : SlH, r = slv q ∧ RdE h' (slv q) ePt 1 (la ++ lb ++ lc)) := by
  refine ct68 ?_
  intro w0
  unfold s68
  have hall : All2 (ptsR h) [a, b, c] [la, lb, lc] := .cons ha (.cons hb (.cons hc .nil))
  have hsz : ∀ l ∈ [la, lb, lc], l.length ≤ 1100000 := by
    intro l hl
    simp only [List.mem_cons, List.not_mem_nil, or_false] at hl
    rcases hl with rfl | rfl | rfl <;> omega
  have hout : la ++ lb ++ lc = [la, lb, lc].flatten := by simp
  rw [hout]
  have hl4 : [a, b, c].length = 3 := rfl
  have hm4 : [la, lb, lc].length = 3 := rfl
  generalize [a, b, c] = hs' at *
  generalize [la, lb, lc] = ls at *
  have htot : ∀ i, i ≤ 3 → (ls.take i).flatten.length ≤ i * 1100000 := by
    intro i
    induction i with
    | zero => intro _; simp
    | succ i ih =>
      intro hi
      have hi' : i < ls.length := by omega
      rw [← List.take_append_getElem hi', List.flatten_append, List.length_append]
      have := hsz _ (List.getElem_mem hi')
      have := ih (by omega)
      rw [show [ls[i]].flatten = ls[i] by simp]
      omega
  refine Gs.lenE hv (by omega) ?_
  refine Gs.lp (β := Nat) (fun i => (I (ls.take i).flatten.length, I i)) (fun _ => h) (fun _ => []) (fun i => i ≤ 3) (fun i => 3 - i) 0 rfl (Nat.zero_le _) (fun _ h => h) ?_
  intro i hi cont hc
  have hb1 := htot i hi
  (repeat (first | refine G.step ?_ | (refine G.jk ?_; intro _)))
  refine G.ifd ?_ ?_ <;> intro hlt
  · have h1 : i < hs'.length := by omega
    have h2 : i < ls.length := by omega
    have hx := hall.get i h1 h2
    have hbi := hsz _ (List.getElem_mem h2)
    have hsn : (ls.take (i + 1)).flatten = (ls.take i).flatten ++ ls[i] := by rw [← List.take_append_getElem h2, List.flatten_append]; simp
    refine G.jnP (fun j => j = I (ls.take (i + 1)).flatten.length) ?_ ?_
    · rintro a rfl
      refine G.jk ?_; intro _
      (repeat (refine G.add (by omega) ?_))
      exact Gs.go (hc (i + 1) (by omega) (by omega)) rfl
    · intro K hK
      refine Gs.indexE hv h1 ?_
      intro b o hp
      refine Gs.loadE hp ?_
      refine Gs.lenE hx (by omega) ?_
      (repeat (first | refine G.add (by omega) ?_ | refine G.step ?_ | refine G.iff ?_))
      exact hK _ (by rw [hsn, List.length_append]; congr 1)
  · have hi4 : i = 3 := by omega
    subst hi4
    refine grow_call _ (by omega) ?_
    intro v1
    refine Gs.lenE hv (by omega) ?_
    refine Gs.lp (β := Nat × Value) (fun g => (g.2, I g.1)) (fun _ => h) (fun g => [.sl g.2 49 1 (fl ePt (ls.take g.1).flatten)]) (fun g => g.1 ≤ 3) (fun g => 3 - g.1) (0, v1) rfl (Nat.zero_le _) (fun _ h => h) ?_
    rintro ⟨i, v2⟩ hi cont hc
    dsimp only at *
    have hb1 := htot i hi
    (repeat (first | refine G.step ?_ | (refine G.jk ?_; intro _)))
    refine G.ifd ?_ ?_ <;> intro hlt
    · have h1 : i < hs'.length := by omega
      have h2 : i < ls.length := by omega
      have hx := hall.get i h1 h2
      have hbi := hsz _ (List.getElem_mem h2)
      have hsn : (ls.take (i + 1)).flatten = (ls.take i).flatten ++ ls[i] := by rw [← List.take_append_getElem h2, List.flatten_append]; simp
      refine Gs.indexE hv h1 ?_
      intro b o hp
      refine Gs.loadE hp ?_
      refine Gs.appendR (enc := ePt) (l := (ls.take i).flatten) (m := ls[i]) hx (by omega) (by omega) ?_
      intro v3
      (repeat (refine G.add (by omega) ?_))
      rw [← hsn]
      exact Gs.go (hc (i + 1, v3) (by dsimp only; omega) (by dsimp only; omega)) rfl
    · have hi4 : i = 3 := by omega
      subst hi4
      rw [show ls.take 3 = ls from List.take_of_length_le (by omega)]
      refine Gs.slH (v := v2) ?_
      rintro q2 rfl
      refine Gs.freezeE (v := slv q2) (enc := ePt) (l := ls.flatten) (by decide) ?_
      intro h' hle hr
      exact Gs.ret ⟨q2, rfl, hr⟩
end Go.Proofs.YtgdochemlbjnlaaGreat
end

section
/-
  Values: reversible options bypassed.
-/
set_option linter.unusedVariables false
set_option linter.unusedSimpArgs false
set_option linter.unusedSectionVars false
set_option maxHeartbeats 8000000
namespace Go.Proofs.YtgdochemlbjnlaaGreat
open Go Go.Sk Go.Va Go.RowKit
variable {M : Go.Sk.Mode}
theorem idxOf_find {α : Type} (p : α → Bool) : ∀ (l : List α) (i : Nat), (idxOf p l i = -1 ∧ l.find? p = none) ∨ ∃ (j : Nat) (hj : j < l.length), idxOf p l i = ((i + j : Nat) : Int) ∧ l.find? p = some l[j]
  | [], i => .inl ⟨rfl, rfl⟩
  | x :: r, i => by
    unfold idxOf
    cases hp : p x with
    | true => exact .inr ⟨0, by simp, by simp, by simp [hp]⟩
    | false =>
      rcases idxOf_find p r (i + 1) with ⟨h1, h2⟩ | ⟨j, hj, h1, h2⟩
      · exact .inl ⟨by simpa using h1, by simp [hp, h2]⟩
      · exact .inr ⟨j + 1, by simpa using hj, by simp only [Bool.false_eq_true, if_false]; rw [h1]; congr 1; omega, by simp [hp, h2]⟩
theorem cut_to {α : Type} (l : List α) (i : Nat) : (l.take (cutHi (some (i : Int)) l.length)).drop (cutLo none) = l.take i := by simp [cutHi, cutLo]
theorem cut_from {α : Type} (l : List α) (i : Nat) : (l.take (cutHi none l.length)).drop (cutLo (some ((i : Int) + 1))) = l.drop (i + 1) := by
  have : ((i : Int) + 1).toNat = i + 1 := by omega
  simp [cutHi, cutLo, this]
section
variable {w0 : World} {h0 h : Hp} {L : List Itm} {K : Value → WP} {k : Bk}
theorem bypass_ok (ql qr : SlH) (l r : List Fm) (hl : RdF h (slv ql) ePt 1 NdR l) (hr : RdF h (slv qr) ePt 1 NdR r) (hn : szs l + szs r ≤ 30000)
    (hkS : ∀ (q : SlH) m h', Hle h h' → byp (.mk l r) [] l = some m → RdF h' (slv q) ePt 1 NdR m → Gw (BQ k) w0 h0 h' L (K (.tuple #[slv q, .bool true])))
    (hkN : ∀ h', Hle h h' → byp (.mk l r) [] l = none → Gw (BQ k) w0 h0 h' L (K (.tuple #[slv ql, .bool false]))) :
    Gw (BQ k) w0 h0 h L (Do Tryz.prog (vCall (.func (.func 49) #[] ⟨[]⟩) [ptr k.b 0, slv ql, slv qr]) K) := by
  refine in49 ?_
  unfold s49
  have hll := len_le_szs l
  have hsw : sz (.mk l r) = 1 + szs l + szs r := sz_eq _
  (repeat (first | refine G.step ?_ | (refine Gw.box ?_; intro _)))
  rename_i bb
  refine make_ok ql qr l r hl hr (by omega) ?_
  intro nb h1 le1 hnd
  (repeat (first | (refine Gw.alloc ?_; intro _) | refine Gw.store ?_))
  rename_i wb
  have hl1 := hl.mono le1
  refine G.lenF hl1 (by omega) ?_
  refine G.lpG (β := Nat) (fun i => I i) (fun _ => OW (BQ k) w0 h0 h1 (.blk wb [ptr nb 0] 49 :: .blk bb [ptr k.b 0] 46 :: L)) (fun i => i ≤ l.length ∧ byp (.mk l r) [] l = byp (.mk l r) (l.take i) (l.drop i)) (fun i => l.length - i) 0 rfl ⟨Nat.zero_le _, by simp⟩ (fun _ s => s) ?_
  rintro i ⟨hi, hby⟩ cont hc

  (repeat (first | refine G.step ?_ | (refine G.jk ?_; intro _)))
  refine G.ifd ?_ ?_ <;> intro hlt
  · have hlt' : i < l.length := by omega
    have htake := List.take_succ_eq_append_getElem hlt'
    have hdrop := List.drop_eq_getElem_cons hlt'
    refine G.indexF hl1 hlt' ?_
    intro b1 o1 x1 hp1 hx1
    refine G.loadE hp1 ?_
    have hmem : l[i] ∈ l := List.getElem_mem hlt'
    have hszi := sz_mem hmem
    generalize l[i] = x at *
    obtain ⟨qx, hpx, hqx⟩ := hx1.r
    have hxr := lenR x
    (repeat (refine G.step ?_))
    refine G.ld1 hpx ?_
    refine in66 ?_
    unfold s66
    refine sIdxG_ok (h := h1) (t := 51) (e := 49) (enc := ePt) (val := fun b => ptr b 0) (fun z => leq z (.mk l r)) hqx (by omega) (fun K x' z hx' hz hk => ?_) ?_
    · refine in67 ?_
      unfold s67
      (repeat (refine G.step ?_))
      have := sz_R hz
      exact most_ok w0 h0 k _ z (.mk l r) (Nat.le_refl _) (by omega) h1 _ _ x' nb hx' hnd hk
    · (repeat (refine G.step ?_))
      rcases idxOf_find (fun z => leq z (.mk l r)) x.R 0 with ⟨e1, e2⟩ | ⟨j, hj, e1, e2⟩
      · rw [e1]
        (repeat (first | refine G.add (by omega) ?_ | refine G.iff ?_))
        refine G.goE (hc (i + 1) ⟨by omega, ?_⟩ (by omega)) (by simp)
        rw [hby, hdrop, byp, e2, htake]
      · rw [e1, Nat.zero_add]
        refine G.ify (by omega) ?_
        have hres : byp (.mk l r) [] l = some (l.take i ++ (x.R[j]).L ++ l.drop (i + 1)) := by rw [hby, hdrop, byp, e2]
        have hzm : x.R[j] ∈ x.R := List.getElem_mem hj
        have hzs := sz_R hzm
        refine Gw.dr ?_
        refine G.qcutF (lo := none) (hi := some (i : Int)) hl1 (by simp [cutLo]) (by simp [cutHi]; omega) (fun _ h => (by cases h)) (fun _ h => by cases h; omega) ?_
        intro va hva
        rw [cut_to] at hva
        (repeat (refine G.qkp ?_))
        refine G.qld1 hpx ?_
        refine G.qindexF hqx hj ?_
        intro b2 o2 x2 hp2 hx2
        refine G.qloadE hp2 ?_
        generalize x.R[j] = z at *
        obtain ⟨qz, hpz, hqz⟩ := hx2.l
        have hzl := lenL z
        (repeat (refine G.qkp ?_))
        refine G.qld1 hpz ?_
        (repeat (refine G.qadd (by omega) ?_))
        refine G.qcutF (lo := some ((i : Int) + 1)) (hi := none) hl1 (by simp [cutLo, cutHi]; omega) (by simp [cutHi]) (fun _ h => by cases h; omega) (fun _ h => (by cases h)) ?_
        intro vc hvc
        rw [cut_from] at hvc
        obtain ⟨qa, rfl⟩ := hva.hdr
        obtain ⟨qc, rfl⟩ := hvc.hdr
        refine Gw.buildSlice (out := [slv qa, slv qz, slv qc]) (by decide) ?_
        intro eb
        skip
        refine Gw.freezeE (enc := eSlH) (v := .slice (some ⟨eb, 0, none⟩) 3 3) (l := [qa, qz, qc]) (by decide) ?_
        intro h2 le2 hr2
        obtain ⟨la, ra, aa⟩ := hva
        obtain ⟨lb, rb, ab⟩ := hqz
        obtain ⟨lc, rc, ac⟩ := hvc
        have hla := aa.len
        have hlb := ab.len
        have hlc := ac.len
        simp only [List.length_take, List.length_drop] at hla hlc
        refine Gw.call0 (fun h3 le3 => concat_ok qa qz qc la lb lc _ h3 (hr2.mono le3) (ra.mono (le2.trans le3)) (rb.mono (le2.trans le3)) (rc.mono (le2.trans le3)) ⟨by omega, by omega, by omega⟩) ?_
        rintro _ h3 le3 ⟨q3, rfl, hr3⟩
        refine Gw.sel (L' := L) ?_
        refine hkS q3 _ h3 (le1.trans (le2.trans le3)) hres ⟨_, hr3, ((aa.append ab).append ac).monoR (le2.trans le3)⟩
  · have hi' : i = l.length := by omega
    subst hi'
    rw [List.drop_length, byp] at hby
    exact Gw.sel (hkN h1 le1 hby)
theorem turn_ok (ql qr : SlH) (l r : List Fm) (hl : RdF h (slv ql) ePt 1 NdR l) (hr : RdF h (slv qr) ePt 1 NdR r) (hn : szs l + szs r ≤ 30000)
    (hkS : ∀ (q : SlH) m h', Hle h h' → tur (.mk l r) [] r = some m → RdF h' (slv q) ePt 1 NdR m → Gw (BQ k) w0 h0 h' L (K (.tuple #[slv q, .bool true])))
    (hkN : ∀ h', Hle h h' → tur (.mk l r) [] r = none → Gw (BQ k) w0 h0 h' L (K (.tuple #[slv qr, .bool false]))) :
    Gw (BQ k) w0 h0 h L (Do Tryz.prog (vCall (.func (.func 50) #[] ⟨[]⟩) [ptr k.b 0, slv ql, slv qr]) K) := by
  refine in50 ?_
  unfold s50
  have hll := len_le_szs r
  have hsw : sz (.mk l r) = 1 + szs l + szs r := sz_eq _
  (repeat (first | refine G.step ?_ | (refine Gw.box ?_; intro _)))
  rename_i bb
  refine make_ok ql qr l r hl hr (by omega) ?_
  intro nb h1 le1 hnd
  (repeat (first | (refine Gw.alloc ?_; intro _) | refine Gw.store ?_))
  rename_i wb
  have hr1 := hr.mono le1
  refine G.lenF hr1 (by omega) ?_
  refine G.lpG (β := Nat) (fun i => I i) (fun _ => OW (BQ k) w0 h0 h1 (.blk wb [ptr nb 0] 49 :: .blk bb [ptr k.b 0] 46 :: L)) (fun i => i ≤ r.length ∧ tur (.mk l r) [] r = tur (.mk l r) (r.take i) (r.drop i)) (fun i => r.length - i) 0 rfl ⟨Nat.zero_le _, by simp⟩ (fun _ s => s) ?_
  rintro i ⟨hi, hby⟩ cont hc

  (repeat (first | refine G.step ?_ | (refine G.jk ?_; intro _)))
  refine G.ifd ?_ ?_ <;> intro hlt
  · have hlt' : i < r.length := by omega
    have htake := List.take_succ_eq_append_getElem hlt'
    have hdrop := List.drop_eq_getElem_cons hlt'
    refine G.indexF hr1 hlt' ?_
    intro b1 o1 x1 hp1 hx1
    refine G.loadE hp1 ?_
    have hmem : r[i] ∈ r := List.getElem_mem hlt'
    have hszi := sz_mem hmem
    generalize r[i] = x at *
    obtain ⟨qx, hpx, hqx⟩ := hx1.l
    have hxr := lenL x
    (repeat (refine G.step ?_))
    refine G.ld1 hpx ?_
    refine in66 ?_
    unfold s66
    refine sIdxG_ok (h := h1) (t := 51) (e := 49) (enc := ePt) (val := fun b => ptr b 0) (fun z => leq (.mk l r) z) hqx (by omega) (fun K x' z hx' hz hk => ?_) ?_
    · refine in69 ?_
      unfold s69
      (repeat (refine G.step ?_))
      have := sz_L hz
      exact most_ok w0 h0 k _ (.mk l r) z (Nat.le_refl _) (by omega) h1 _ _ nb x' hnd hx' hk
    · (repeat (refine G.step ?_))
      rcases idxOf_find (fun z => leq (.mk l r) z) x.L 0 with ⟨e1, e2⟩ | ⟨j, hj, e1, e2⟩
      · rw [e1]
        (repeat (first | refine G.add (by omega) ?_ | refine G.iff ?_))
        refine G.goE (hc (i + 1) ⟨by omega, ?_⟩ (by omega)) (by simp)
        rw [hby, hdrop, tur, e2, htake]
      · rw [e1, Nat.zero_add]
        refine G.ify (by omega) ?_
        have hres : tur (.mk l r) [] r = some (r.take i ++ (x.L[j]).R ++ r.drop (i + 1)) := by rw [hby, hdrop, tur, e2]
        have hzm : x.L[j] ∈ x.L := List.getElem_mem hj
        have hzs := sz_L hzm
        refine Gw.dr ?_
        refine G.qcutF (lo := none) (hi := some (i : Int)) hr1 (by simp [cutLo]) (by simp [cutHi]; omega) (fun _ h => (by cases h)) (fun _ h => by cases h; omega) ?_
        intro va hva
        rw [cut_to] at hva
        (repeat (refine G.qkp ?_))
        refine G.qld1 hpx ?_
        refine G.qindexF hqx hj ?_
        intro b2 o2 x2 hp2 hx2
        refine G.qloadE hp2 ?_
        generalize x.L[j] = z at *
        obtain ⟨qz, hpz, hqz⟩ := hx2.r
        have hzl := lenR z
        (repeat (refine G.qkp ?_))
        refine G.qld1 hpz ?_
        (repeat (refine G.qadd (by omega) ?_))
        refine G.qcutF (lo := some ((i : Int) + 1)) (hi := none) hr1 (by simp [cutLo, cutHi]; omega) (by simp [cutHi]) (fun _ h => by cases h; omega) (fun _ h => (by cases h)) ?_
        intro vc hvc
        rw [cut_from] at hvc
        obtain ⟨qa, rfl⟩ := hva.hdr
        obtain ⟨qc, rfl⟩ := hvc.hdr
        refine Gw.buildSlice (out := [slv qa, slv qz, slv qc]) (by decide) ?_
        intro eb
        skip
        refine Gw.freezeE (enc := eSlH) (v := .slice (some ⟨eb, 0, none⟩) 3 3) (l := [qa, qz, qc]) (by decide) ?_
        intro h2 le2 hr2
        obtain ⟨la, ra, aa⟩ := hva
        obtain ⟨lb, rb, ab⟩ := hqz
        obtain ⟨lc, rc, ac⟩ := hvc
        have hla := aa.len
        have hlb := ab.len
        have hlc := ac.len
        simp only [List.length_take, List.length_drop] at hla hlc
        refine Gw.call0 (fun h3 le3 => concat_ok qa qz qc la lb lc _ h3 (hr2.mono le3) (ra.mono (le2.trans le3)) (rb.mono (le2.trans le3)) (rc.mono (le2.trans le3)) ⟨by omega, by omega, by omega⟩) ?_
        rintro _ h3 le3 ⟨q3, rfl, hr3⟩
        refine Gw.sel (L' := L) ?_
        refine hkS q3 _ h3 (le1.trans (le2.trans le3)) hres ⟨_, hr3, ((aa.append ab).append ac).monoR (le2.trans le3)⟩
  · have hi' : i = r.length := by omega
    subst hi'
    rw [List.drop_length, tur] at hby
    exact Gw.sel (hkN h1 le1 hby)
end
end Go.Proofs.YtgdochemlbjnlaaGreat
end

section
/-
  Values: options that are not better than others left out, the rest sorted by their texts.
-/
set_option linter.unusedVariables false
set_option linter.unusedSimpArgs false
set_option linter.unusedSectionVars false
set_option maxHeartbeats 8000000
namespace Go.Proofs.YtgdochemlbjnlaaGreat
open Go Go.Sk Go.Va Go.RowKit
variable {M : Go.Sk.Mode}
theorem cmpB_lt : ∀ a b : List UInt8, (Lib.compareBytes a b < 0) ↔ Op.bytesLess a b = true
  | [], [] => by simp [Lib.compareBytes, Op.bytesLess]
  | [], _ :: _ => by simp [Lib.compareBytes, Op.bytesLess]
  | _ :: _, [] => by simp [Lib.compareBytes, Op.bytesLess]
  | a :: s, b :: t => by
    have ih := cmpB_lt s t
    simp only [Lib.compareBytes, Op.bytesLess]
    by_cases h1 : a < b
    · simp [h1]
    · by_cases h2 : b < a
      · have hne : a ≠ b := fun e => by subst e; exact UInt8.lt_irrefl _ h2
        simp [h1, h2, hne]
      · have he : a = b := by
          have := UInt8.le_antisymm (UInt8.not_lt.1 h2) (UInt8.not_lt.1 h1)
          exact this
        subst he
        simp [h1, ih]
def cmpN (f g : Fm) : Int := Lib.compareBytes (pr f) (pr g)
theorem cmpN_lt (f g : Fm) : (cmpN f g < 0) ↔ tlt (pr f) (pr g) = true := by
  unfold cmpN tlt
  rw [cmpB_lt, bytesLess_eq]
theorem cmpN_swo : Sort.SWO (Go.Proofs.ltOf cmpN) := by
  have hl : ∀ a b, Go.Proofs.ltOf cmpN a b = tlt (pr a) (pr b) := fun a b => by
    unfold Go.Proofs.ltOf
    rw [Bool.eq_iff_iff, decide_eq_true_iff]
    exact cmpN_lt a b
  refine ⟨fun a => ?_, fun a b c h1 h2 => ?_, fun a b c h1 h2 => ?_⟩ <;> simp only [hl] at *
  · exact tlt_irrefl _
  · exact tlt_trans h1 h2
  · cases e : tlt (pr a) (pr c)
    · rfl
    · exfalso
      cases e2 : tlt (pr c) (pr b)
      · have := tlt_tri h2 e2
        rw [← this] at e
        rw [h1] at e; cases e
      · have := tlt_trans e e2
        rw [h1] at this; cases this
theorem cmpN_ok (x y : Nat) (f g : Fm) (h : Hp) (hx : NdR h x f) (hy : NdR h y g) : Ct Tryz.prog 71 [ptr x 0, ptr y 0] h (fun _ v => v = I (cmpN f g)) := by
  refine ct71 ?_
  intro w0
  unfold s71
  (repeat (first | refine Gs.dr ?_ | refine G.qkp ?_))
  refine Gs.qloadP1 hx.text ?_
  (repeat (refine G.qkp ?_))
  refine Gs.qloadP1 hy.text ?_
  refine Gs.callv0 (Ct.still (v := I (cmpN f g)) (fun w => by
    have := Tryz.strings_Compare ⟨(pr f).toArray⟩ ⟨(pr g).toArray⟩ w
    simpa [cmpN] using this)) ?_
  exact Gs.ret rfl
theorem sorted_eq {wo : Fm → Fm → Bool} (hw : Pre wo) {l m : List Fm} (hp : m.Perm (best wo l)) (hs : m.Pairwise fun a b => ¬ cmpN b a < 0) : m = sortT (best wo l) := by
  have hn := best_nodup hw l
  have hn' : m.Nodup := hp.nodup_iff.2 hn
  refine srt_ext ?_ (sortT_srt _ hn) fun x => by rw [hp.mem_iff, sortT_mem]
  refine (hs.and hn').imp fun {a b} h => ?_
  rw [cmpN_lt] at h
  cases e : tlt (pr a) (pr b)
  · exact absurd (pr_inj (tlt_tri e (by simpa using h.1))) h.2
  · rfl
theorem bestI_snoc (wo : Fm → Fm → Bool) (l : List Fm) (i : Nat) (hi : i < l.length) : ((l.zipIdx.take (i + 1)).filter fun p => !l.zipIdx.any (dom wo p)).map (·.1) = ((l.zipIdx.take i).filter fun p => !l.zipIdx.any (dom wo p)).map (·.1) ++ (if (!l.zipIdx.any (dom wo (l[i], i))) = true then [l[i]] else []) := by
  have hi' : i < l.zipIdx.length := by simpa using hi
  have hg : l.zipIdx[i] = (l[i], i) := by simp
  rw [List.take_succ_eq_append_getElem hi', List.filter_append, List.map_append, hg]
  congr 1
  by_cases hc : (!l.zipIdx.any (dom wo (l[i], i))) = true
  · rw [if_pos hc, List.filter_cons_of_pos (by exact hc)]; rfl
  · rw [if_neg hc, List.filter_cons_of_neg (by exact hc)]; rfl
theorem any_snoc (wo : Fm → Fm → Bool) (l : List Fm) (p : Fm × Nat) (i : Nat) (hi : i < l.length) : (l.zipIdx.take (i + 1)).any (dom wo p) = ((l.zipIdx.take i).any (dom wo p) || dom wo p (l[i], i)) := by
  have hi' : i < l.zipIdx.length := by simpa using hi
  have hg : l.zipIdx[i] = (l[i], i) := by simp
  rw [List.take_succ_eq_append_getElem hi', List.any_append, hg]
  simp
section
variable {w0 : World} {h0 h : Hp} {L : List Itm} {K : Value → WP} {k : Bk}
theorem best_ok (q : SlH) (l : List Fm) (wo : Fm → Fm → Bool) (wv : Value) (hpre : Pre wo) (hl : RdF h (slv q) ePt 1 NdR l) (hn : l.length ≤ 30000)
    (hw : ∀ (L' : List Itm) (K : Value → WP) (bx b_y : Nat) f g, L ⊆ L' → f ∈ l → g ∈ l → NdR h bx f → NdR h b_y g → Gw (BQ k) w0 h0 h L' (K (.bool (wo f g))) → Gw (BQ k) w0 h0 h L' (Do Tryz.prog (vCall wv [ptr bx 0, ptr b_y 0]) K))
    (hk : ∀ (q' : SlH) h', Hle h h' → RdF h' (slv q') ePt 1 NdR (sortT (best wo l)) → Gw (BQ k) w0 h0 h' L (K (slv q'))) :
    Gw (BQ k) w0 h0 h L (Do Tryz.prog (vCall (.func (.func 52) #[] ⟨[]⟩) [slv q, wv]) K) := by
  refine in52 ?_
  unfold s52
  refine G.lenF hl (by omega) ?_
  refine Gw.nilsl 49 1 ?_
  refine G.lpG (β := Nat × SlH × List Nat) (fun u => (slv u.2.1, I u.1)) (fun u => OW (BQ k) w0 h0 h (.sl (slv u.2.1) 49 1 (fl ePt u.2.2) :: L)) (fun u => u.1 ≤ l.length ∧ All2 (NdR h) u.2.2 (((l.zipIdx.take u.1).filter fun p => !l.zipIdx.any (dom wo p)).map (·.1))) (fun u => l.length - u.1) (0, (none, 0, 0), []) rfl ⟨Nat.zero_le _, by simp; exact .nil⟩ (fun _ s => s) ?_
  rintro ⟨i, q1, bs⟩ ⟨hi, hbs⟩ cont hc
  dsimp only at hi hbs hc ⊢
  have hblen : bs.length ≤ i := by
    rw [hbs.len]
    simp only [List.length_map]
    refine Nat.le_trans (List.length_filter_le _ _) ?_
    simp only [List.length_take]
    omega
  (repeat (first | refine G.step ?_ | (refine G.jk ?_; intro _)))
  refine G.ifd ?_ ?_ <;> intro hlt
  · have hlt' : i < l.length := by omega
    have hsn := bestI_snoc wo l i hlt'
    refine G.jnk (fun (j : Value) S' => ∃ (q2 : SlH) (b2 : List Nat), j = slv q2 ∧ All2 (NdR h) b2 (((l.zipIdx.take (i + 1)).filter fun p => !l.zipIdx.any (dom wo p)).map (·.1)) ∧ S' = OW (BQ k) w0 h0 h (.sl (slv q2) 49 1 (fl ePt b2) :: L)) ?_ ?_
    · rintro _ _ ⟨q2, b2, rfl, hb2, rfl⟩
      refine G.jk ?_; intro _
      (repeat (refine G.add (by omega) ?_))
      exact G.goE (hc (i + 1, q2, b2) ⟨by dsimp only; omega, hb2⟩ (by dsimp only; omega)) (by simp)
    · intro k4 hk4
      rw [hsn] at hk4
      refine G.indexF hl hlt' ?_
      intro b1 o1 x1 hp1 hx1
      refine G.loadE hp1 ?_
      have hmx : l[i] ∈ l := List.getElem_mem hlt'
      generalize l[i] = x at *
      refine G.lenF hl (by omega) ?_
      refine G.lpG (β := Nat) (fun m => (.bool (!(l.zipIdx.take m).any (dom wo (x, i))), I m)) (fun _ => OW (BQ k) w0 h0 h (.sl (slv q1) 49 1 (fl ePt bs) :: L)) (fun m => m ≤ l.length) (fun m => l.length - m) 0 (by simp) (Nat.zero_le _) (fun _ s => s) ?_
      rintro m hm cont2 hc2
      refine G.jk ?_; intro _
      refine G.step ?_
      refine G.ifd ?_ ?_ <;> intro hlt2
      · have hlt2' : m < l.length := by omega
        have hany := any_snoc wo l (x, i) m hlt2'
        refine G.jnP (fun j => j = .bool (!(l.zipIdx.take (m + 1)).any (dom wo (x, i)))) ?_ ?_
        · rintro _ rfl
          refine G.jk ?_; intro _
          (repeat (refine G.add (by omega) ?_))
          exact G.goE (hc2 (m + 1) (by omega) (by omega)) (by simp)
        · intro k11 hk11
          rw [hany] at hk11
          refine G.indexF hl hlt2' ?_
          intro b3 o3 y1 hp3 hy1
          refine G.loadE hp3 ?_
          have hmy : l[m] ∈ l := List.getElem_mem hlt2'
          generalize l[m] = y at *
          refine G.jnP (fun j => j = .bool (dom wo (x, i) (y, m))) ?_ ?_
          · rintro _ rfl
            refine G.jk ?_; intro _
            refine G.ifb ?_ ?_ <;> intro hd
            · refine hk11 _ ?_
              rw [hd, Bool.or_true]; rfl
            · refine hk11 _ ?_
              rw [hd, Bool.or_false]
          · intro k15 hk15
            have hdom : dom wo (x, i) (y, m) = (decide (m ≠ i) && wo x y && (decide (m < i) || !wo y x)) := rfl
            rw [hdom] at hk15
            refine G.step ?_
            refine G.gddt ?_ ?_ <;> intro c1
            · refine hw _ _ _ _ x y (List.subset_cons_self _ _) hmx hmy hx1 hy1 ?_
              refine G.gdbt ?_ ?_ <;> intro c2
              · refine G.step ?_
                refine G.gddf ?_ ?_ <;> intro c3
                · refine hk15 _ ?_
                  rw [decide_eq_true (by omega), c2, decide_eq_true (show m < i by omega)]; rfl
                · refine hw _ _ _ _ y x (List.subset_cons_self _ _) hmy hmx hy1 hx1 ?_
                  refine G.step ?_
                  refine hk15 _ ?_
                  rw [decide_eq_true (by omega), c2, decide_eq_false (show ¬ m < i by omega)]; rfl
              · refine hk15 _ ?_
                rw [c2, Bool.and_false, Bool.false_and]
            · refine hk15 _ ?_
              rw [decide_eq_false (by omega)]; rfl
      · have hm' : m = l.length := by omega
        subst hm'
        rw [List.take_of_length_le (by simp)]
        refine G.ifb ?_ ?_ <;> intro hkeep
        · refine Gw.push (enc := ePt) (l := bs) (a := x1) (by decide) (by decide) (by omega) (by omega) ?_
          intro s' q2
          refine hk4 _ _ ⟨q2, bs ++ [x1], rfl, ?_, rfl⟩
          rw [if_pos hkeep]
          exact hbs.snoc hx1
        · refine hk4 _ _ ⟨q1, bs, rfl, ?_, rfl⟩
          rw [if_neg (by rw [hkeep]; simp), List.append_nil]
          exact hbs
  · have hi' : i = l.length := by omega
    subst hi'
    rw [List.take_of_length_le (by simp)] at hbs
    have hbb : (l.zipIdx.filter fun p => !l.zipIdx.any (dom wo p)).map (·.1) = best wo l := rfl
    rw [hbb] at hbs
    refine Gw.sort1 (en0 := fun b => ptr b 0) (l := bs) NdR cmpN cmpN_swo hbs (by omega) (fun p cap w => AnyF.slices_SortFunc_none { Tryz.sortN with } p cap _ w)
      (fun γ _ en h1 cf hO blk off cap d w hcmp hH hblk hsz => Any.slices_SortFunc Tryz.sortN en h1 cf hO 71 #[] blk off cap d w (fun args w => by kernel_rfl) hcmp hH hblk hsz)
      (fun h' x a y b hx hy => cmpN_ok (M := Go.Sk.Mode.on) x y a b h' hx hy) ?_
    intro l' m' hp hs hal
    have := sorted_eq hpre hp hs
    subst this
    refine Gw.freezeE (enc := ePt) (v := slv q1) (by decide) ?_
    intro h' hle hr
    exact hk q1 h' hle ⟨l', hr, hal.monoR hle⟩
end
end Go.Proofs.YtgdochemlbjnlaaGreat
end

section
/-
  Values: the canonical form of a node.
-/
set_option linter.unusedVariables false
set_option linter.unusedSimpArgs false
set_option linter.unusedSectionVars false
set_option maxHeartbeats 8000000
namespace Go.Proofs.YtgdochemlbjnlaaGreat
open Go Go.Sk Go.Va Go.RowKit
variable {M : Go.Sk.Mode}
theorem byp_sz {w : Fm} {l m : List Fm} (h : byp w [] l = some m) : szs m < szs l := by
  obtain ⟨a, x, z, b, rfl, hz, _, rfl⟩ := byp_some h
  have s1 := sz_R hz
  have s2 := sz_eq z
  simp only [szs_app, szs, List.nil_append]
  omega
theorem tur_sz {w : Fm} {l m : List Fm} (h : tur w [] l = some m) : szs m < szs l := by
  obtain ⟨a, x, z, b, rfl, hz, _, rfl⟩ := tur_some h
  have s1 := sz_L hz
  have s2 := sz_eq z
  simp only [szs_app, szs, List.nil_append]
  omega
theorem loop_byp {n : Nat} {l r m : List Fm} (h : byp (.mk l r) [] l = some m) : loop (n + 1) l r = loop n m r := by rw [loop, h]
theorem loop_tur {n : Nat} {l r m : List Fm} (h1 : byp (.mk l r) [] l = none) (h : tur (.mk l r) [] r = some m) : loop (n + 1) l r = loop n l m := by rw [loop, h1, h]
theorem loop_end {n : Nat} {l r : List Fm} (h1 : byp (.mk l r) [] l = none) (h : tur (.mk l r) [] r = none) : loop (n + 1) l r = (l, r) := by rw [loop, h1, h]
/-- What reducing a node does. -/
def RedP [M : Go.Sk.Mode] (w0 : World) (h0 : Hp) (k : Bk) (f : Fm) : Prop := ∀ (h : Hp) (L : List Itm) (K : Value → WP) (b : Nat), NdR h b f →
  (∀ c h', Hle h h' → NdR h' c (canon f) → Gw (BQ k) w0 h0 h' L (K (ptr c 0))) → Gw (BQ k) w0 h0 h L (Do Tryz.prog (vCall (.func (.func 31) #[] ⟨[]⟩) [ptr k.b 0, ptr b 0]) K)
structure RdG where
  q1 : SlH
  q2 : SlH
  l : List Fm
  r : List Fm
  hh : Hp
  more : Bool
theorem reduce_ok (w0 : World) (h0 : Hp) (k : Bk) : ∀ (n : Nat) (f : Fm), sz f ≤ n → n ≤ 20000 → RedP w0 h0 k f := by
  intro n
  induction n with
  | zero => intro f hf; have := sz_pos f; omega
  | succ n ih =>
    intro f hf hn h L K b hx hk
    have hl := lenL f
    have hr := lenR f
    have hsz := sz_eq f
    have hcl := szs_map_le (g := canon) (l := f.L) fun x _ => (canon_ok x).2.2
    have hcr := szs_map_le (g := canon) (l := f.R) fun x _ => (canon_ok x).2.2
    refine in31 ?_
    unfold s31
    (repeat (first | (refine Gw.box ?_; intro _) | refine Gw.dr ?_ | refine Gw.qkb ?_ | refine G.qkp ?_))
    rename_i bb
    refine Bw.open ?_
    intro h1 s le1 hb hs
    have hx1 := hx.mono le1
    refine Gs.qloadP1 (bk2 hb) ?_
    (repeat (refine G.qkp ?_))
    refine Gs.qloadP1 hx1.text ?_
    refine Gs.qlookup2 (ek := kS) (ev := vP) (l := s.c) (pr f) rfl ?_
    (repeat (refine G.qkp ?_))
    cases hm : mget s.c (pr f) with
    | some c =>
      obtain ⟨f', e1, e2⟩ := hs.c _ _ hm
      have e3 := pr_inj e1
      subst e3
      (repeat (refine G.ift ?_))
      rw [show lk1 vP (.pointer none) s.c (pr f) = ptr c 0 by unfold lk1; rw [hm]; rfl]
      exact Bw.close (k := k) (L := L) s hb hs (hk c h1 le1 e2)
    | none =>
      refine G.iff ?_
      refine Bw.close (k := k) (L := .blk bb [ptr k.b 0] 46 :: L) s hb hs ?_
      obtain ⟨ql, hpl, hql⟩ := hx1.l
      obtain ⟨qr, hpr, hqr⟩ := hx1.r
      (repeat (refine G.step ?_))
      refine G.ld1 hpl ?_
      refine G.lenF hql (by omega) ?_
      refine Gw.nilsl 49 1 ?_
      refine G.lpG (β := Nat × SlH × Hp × List Nat) (fun u => (slv u.2.1, I u.1)) (fun u => OW (BQ k) w0 h0 u.2.2.1 (.sl (slv u.2.1) 49 1 (fl ePt u.2.2.2) :: .blk bb [ptr k.b 0] 46 :: L)) (fun u => u.1 ≤ f.L.length ∧ Hle h1 u.2.2.1 ∧ All2 (NdR u.2.2.1) u.2.2.2 ((f.L.take u.1).map canon)) (fun u => f.L.length - u.1) (0, (none, 0, 0), h1, []) rfl ⟨Nat.zero_le _, Hle.refl h1, by simp; exact .nil⟩ (fun _ s => s) ?_
      rintro ⟨i, q, hh, bs⟩ ⟨hi, hle, hbs⟩ cont hc
      dsimp only at hi hle hbs hc ⊢
      have hlen : bs.length = i := by rw [hbs.len]; simp; omega
      (repeat (first | refine G.step ?_ | (refine G.jk ?_; intro _)))
      refine G.ifd ?_ ?_ <;> intro hlt
      · have hlt' : i < f.L.length := by omega
        have htake := List.take_succ_eq_append_getElem hlt'
        refine G.indexF (hql.mono hle) hlt' ?_
        intro b1 o1 x1 hp1 hx1'
        refine G.loadE hp1 ?_
        have hmem : f.L[i] ∈ f.L := List.getElem_mem hlt'
        (repeat (refine G.step ?_))
        refine ih _ (by have := sz_L hmem; omega) (by omega) hh _ _ x1 hx1' ?_
        intro c h2 le2 hnd
        refine Gw.push (enc := ePt) (l := bs) (a := c) (by decide) (by decide) (by omega) (by omega) ?_
        intro s' q2
        (repeat (refine G.add (by omega) ?_))
        refine G.goE (hc (i + 1, q2, h2, bs ++ [c]) ⟨by dsimp only; omega, hle.trans le2, ?_⟩ (by dsimp only; omega)) (by simp)
        dsimp only
        rw [htake, List.map_append]
        exact (hbs.monoR le2).snoc hnd
      · have hi' : i = f.L.length := by omega
        subst hi'
        rw [List.take_length] at hbs
        clear hc cont hlt hi
        refine Gw.freezeE (enc := ePt) (v := slv q) (by decide) ?_
        intro h2 le2 hfr
        have hLq : RdF h2 (slv q) ePt 1 NdR (f.L.map canon) := ⟨bs, hfr, hbs.monoR le2⟩
        have le12 := hle.trans le2
        (repeat (refine G.step ?_))
        refine G.ld1 (hpr.mono le12) ?_
        refine G.lenF (hqr.mono le12) (by omega) ?_
        refine Gw.nilsl 49 1 ?_
        refine G.lpG (β := Nat × SlH × Hp × List Nat) (fun u => (slv u.2.1, I u.1)) (fun u => OW (BQ k) w0 h0 u.2.2.1 (.sl (slv u.2.1) 49 1 (fl ePt u.2.2.2) :: .blk bb [ptr k.b 0] 46 :: L)) (fun u => u.1 ≤ f.R.length ∧ Hle h2 u.2.2.1 ∧ All2 (NdR u.2.2.1) u.2.2.2 ((f.R.take u.1).map canon)) (fun u => f.R.length - u.1) (0, (none, 0, 0), h2, []) rfl ⟨Nat.zero_le _, Hle.refl h2, by simp; exact .nil⟩ (fun _ s => s) ?_
        rintro ⟨i, q', h3, bs'⟩ ⟨hi, hle', hbs'⟩ cont hc
        dsimp only at hi hle' hbs' hc ⊢
        have hlen' : bs'.length = i := by rw [hbs'.len]; simp; omega
        (repeat (first | refine G.step ?_ | (refine G.jk ?_; intro _)))
        refine G.ifd ?_ ?_ <;> intro hlt
        · have hlt' : i < f.R.length := by omega
          have htake := List.take_succ_eq_append_getElem hlt'
          refine G.indexF (hqr.mono (le12.trans hle')) hlt' ?_
          intro b1 o1 x1 hp1 hx1'
          refine G.loadE hp1 ?_
          have hmem : f.R[i] ∈ f.R := List.getElem_mem hlt'
          (repeat (refine G.step ?_))
          refine ih _ (by have := sz_R hmem; omega) (by omega) h3 _ _ x1 hx1' ?_
          intro c h4 le4 hnd
          refine Gw.push (enc := ePt) (l := bs') (a := c) (by decide) (by decide) (by omega) (by omega) ?_
          intro s' q2
          (repeat (refine G.add (by omega) ?_))
          refine G.goE (hc (i + 1, q2, h4, bs' ++ [c]) ⟨by dsimp only; omega, hle'.trans le4, ?_⟩ (by dsimp only; omega)) (by simp)
          dsimp only
          rw [htake, List.map_append]
          exact (hbs'.monoR le4).snoc hnd
        · have hi' : i = f.R.length := by omega
          subst hi'
          rw [List.take_length] at hbs'
          clear hc cont hlt hi
          refine Gw.freezeE (enc := ePt) (v := slv q') (by decide) ?_
          intro h4 le4 hfr'
          have hRq : RdF h4 (slv q') ePt 1 NdR (f.R.map canon) := ⟨bs', hfr', hbs'.monoR le4⟩
          have hLq4 := hLq.mono (hle'.trans le4)
          have le14 := le12.trans (hle'.trans le4)
          have hx4 := hx1.mono le14
          have hcan := canon_eq f
          generalize f.L.map canon = l0 at *
          generalize f.R.map canon = r0 at *
          have hfin : canon f = .mk (sortT (best leq (loop (szs l0 + szs r0 + 1) l0 r0).1)) (sortT (best (fun x y => leq y x) (loop (szs l0 + szs r0 + 1) l0 r0).2)) := hcan
          generalize hp : loop (szs l0 + szs r0 + 1) l0 r0 = p at hfin
          refine G.lpG (β := RdG) (fun u => (slv u.q1, slv u.q2, .bool u.more)) (fun u => OW (BQ k) w0 h0 u.hh (.blk bb [ptr k.b 0] 46 :: L)) (fun u => Hle h4 u.hh ∧ RdF u.hh (slv u.q1) ePt 1 NdR u.l ∧ RdF u.hh (slv u.q2) ePt 1 NdR u.r ∧ szs u.l + szs u.r ≤ szs l0 + szs r0 ∧ (u.more = true → ∃ N, szs u.l + szs u.r < N ∧ loop N u.l u.r = p) ∧ (u.more = false → (u.l, u.r) = p)) (fun u => if u.more then szs u.l + szs u.r + 1 else 0) ⟨q, q', l0, r0, h4, true⟩ rfl ⟨Hle.refl h4, hLq4, hRq, Nat.le_refl _, fun _ => ⟨_, Nat.lt_succ_self _, hp⟩, fun h => (by cases h)⟩ (fun _ s => s) ?_
          rintro ⟨q1, q2, l, r, h5, more⟩ ⟨le5, hl5, hr5, hs5, hm1, hm2⟩ cont hc
          dsimp only at le5 hl5 hr5 hs5 hm1 hm2 hc ⊢
          cases more with
          | true =>
            obtain ⟨N, hN, hlp⟩ := hm1 rfl
            obtain ⟨N, rfl⟩ : ∃ N', N = N' + 1 := ⟨N - 1, by omega⟩
            (repeat (first | refine G.step ?_ | refine G.ift ?_ | (refine G.jk ?_; intro _)))
            refine bypass_ok q1 q2 l r hl5 hr5 (by omega) ?_ ?_
            · intro q3 m h6 le6 hby hm6
              have hsz6 := byp_sz hby
              (repeat (first | refine G.step ?_ | refine G.iff ?_))
              refine G.goE (hc ⟨q3, q2, m, r, h6, true⟩ ⟨le5.trans le6, hm6, hr5.mono le6, by dsimp only; omega, fun _ => ⟨N, by dsimp only; omega, by rw [← hlp, loop_byp hby]⟩, fun h => (by cases h)⟩ (by simp; omega)) rfl
            · intro h6 le6 hby
              (repeat (first | refine G.step ?_ | refine G.ift ?_))
              refine turn_ok q1 q2 l r (hl5.mono le6) (hr5.mono le6) (by omega) ?_ ?_
              · intro q3 m h7 le7 htu hm7
                have hsz7 := tur_sz htu
                (repeat (refine G.step ?_))
                refine G.goE (hc ⟨q1, q3, l, m, h7, true⟩ ⟨le5.trans (le6.trans le7), hl5.mono (le6.trans le7), hm7, by dsimp only; omega, fun _ => ⟨N, by dsimp only; omega, by rw [← hlp, loop_tur hby htu]⟩, fun h => (by cases h)⟩ (by simp; omega)) rfl
              · intro h7 le7 htu
                (repeat (refine G.step ?_))
                refine G.goE (hc ⟨q1, q2, l, r, h7, false⟩ ⟨le5.trans (le6.trans le7), hl5.mono (le6.trans le7), hr5.mono (le6.trans le7), hs5, (fun h => absurd h (by simp)), (fun _ => by rw [← hlp, loop_end hby htu])⟩ (by simp)) rfl
          | false =>
            have hpe := hm2 rfl
            subst hpe
            dsimp only at hfin
            have hll := len_le_szs l
            have hlr := len_le_szs r
            (repeat (first | refine Gw.dr ?_ | refine Gw.qkb ?_ | refine G.iff ?_ | (refine G.jk ?_; intro _)))
            refine best_ok q1 l leq _ pre_le hl5 (by omega) (fun L' K' bx b_y f' g' hsub hf' hg' hx' hy' hk' => ?_) ?_
            · refine Gs.first (first := [ptr k.b 0]) ?_
              have := sz_mem hf'
              have := sz_mem hg'
              exact most_ok w0 h0 k _ f' g' (Nat.le_refl _) (by omega) h5 L' K' bx b_y hx' hy' hk'
            intro q3 h6 le6 hq3
            (repeat (refine Gw.withb ?_))
            refine best_ok q2 r (fun x y => leq y x) _ pre_ge (hr5.mono le6) (by omega) (fun L' K' bx b_y f' g' hsub hf' hg' hx' hy' hk' => ?_) ?_
            · refine in51 ?_
              unfold s51
              haveI : Blk L' bb [ptr k.b 0] 46 := ⟨hsub (List.mem_cons_self ..)⟩
              (repeat (refine G.step ?_))
              have := sz_mem hf'
              have := sz_mem hg'
              exact most_ok w0 h0 k _ g' f' (Nat.le_refl _) (by omega) h6 L' K' b_y bx hy' hx' hk'
            intro q4 h7 le7 hq4
            have hsb1 : szs (sortT (best leq l)) ≤ szs l := by rw [szs_perm (sortT_perm _)]; exact szs_sublist (best_sublist _ _)
            have hsb2 : szs (sortT (best (fun x y => leq y x) r)) ≤ szs r := by rw [szs_perm (sortT_perm _)]; exact szs_sublist (best_sublist _ _)
            (repeat (refine Gw.withb ?_))
            refine make_ok q3 q4 _ _ (hq3.mono le7) hq4 (by omega) ?_
            rw [← hfin]
            intro c h8 le8 hc8
            have le58 := le6.trans (le7.trans le8)
            have le48 := le5.trans le58
            (repeat (first | refine Gw.dr ?_ | refine Gw.qkb ?_ | refine G.qkp ?_))
            refine Bw.open ?_
            intro h9 s9 le9 hb9 hs9
            refine Gs.qloadP1 (bk2 hb9) ?_
            (repeat (refine G.qkp ?_))
            refine Gs.qloadP1 (hx4.mono (le48.trans le9)).text ?_
            refine Gs.mapUpdate (ek := kS) (ev := vP) (pr f) c rfl rfl ?_
            refine Bw.close (k := k) (L := L) ⟨s9.n, s9.q, mset s9.c (pr f) c⟩ hb9 ⟨hs9.n, hs9.q, fun k' b' e => ?_⟩ (hk c h9 (le1.trans (le14.trans (le48.trans le9))) (hc8.mono le9))
            dsimp only at e
            rw [mget_mset] at e
            split at e
            · rename_i e2
              cases e
              exact ⟨f, e2, hc8.mono le9⟩
            · exact hs9.c k' b' e
end Go.Proofs.YtgdochemlbjnlaaGreat
end

