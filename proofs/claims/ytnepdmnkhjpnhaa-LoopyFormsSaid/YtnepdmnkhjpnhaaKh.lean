/-
  Lemmas for the proof of the statement of this claim: a part of the road, no statement of its own. Conditions: those that each lemma names.
-/
import Derived.Test.YtnepdmnkhjpnhaaKe
section
set_option linter.unusedVariables false
set_option linter.unusedSimpArgs false
set_option linter.unusedSectionVars false
set_option maxHeartbeats 8000000
namespace Go.Proofs.Ytnepdmnkhjpnhaa
open Go Go.Sk Go.Lp Go.RowKit
variable {M : Go.Sk.Mode}
theorem solveL_ok (g : Gr) (x : GrH) (s : Sp) (h : Hp) (hx : GrR h x g) (hs : GS g) : Ct Try.prog 13 [vG x, vSp s] h (fun _ v => v = .agg #[I (solv g s).1, I (solv g s).2]) := by
  refine ct13 ?_
  intro w0
  unfold s13
  (repeat (first | refine G.step ?_ | (refine Gs.box ?_; intro _) | (refine Gs.alloc ?_; intro _)))
  refine Gs.callv0 (solve_ok g x s h hx hs) ?_
  (repeat (first | refine G.step ?_ | refine Gs.store ?_ | refine G.retc ?_))
  exact Gs.ret rfl
theorem boundsL_ok (g : Gr) (x : GrH) (node : Int) (h : Hp) (hx : GrR h x g) (hs : GS g) (hnode : -1152921504606846976 ≤ node ∧ node ≤ 1152921504606846976) : Ct Try.prog 20 [vG x, I node] h (fun _ v => ∃ b : Int × Int × Int, BdS g node b ∧ v = .agg #[I b.1, I b.2.1, I b.2.2]) := by
  refine ct20 ?_
  intro w0
  unfold s20
  (repeat (first | refine G.step ?_ | (refine Gs.box ?_; intro _) | (refine Gs.alloc ?_; intro _)))
  refine Gs.call0 (bounds_ok g x node h hx hs hnode) ?_
  rintro _ h1 le1 ⟨b, hb, rfl⟩
  (repeat (first | refine G.step ?_ | (refine Gs.alloc ?_; intro _) | refine Gs.store ?_ | refine G.retc ?_))
  exact Gs.ret ⟨b, hb, rfl⟩
theorem proveL_ok (g : Gr) (x : GrH) (s : Sp) (side : Int) (h : Hp) (hx : GrR h x g) (hs : GS g) : Ct Try.prog 16 [vG x, vSp s, I side] h (fun h' v => ∃ (q : SlH) (l : List Sp) (e : Int), PvS g s side l e ∧ RdE h' (slv q) eSp 3 l ∧ v = .agg #[slv q, I e]) := by
  refine ct16 ?_
  intro w0
  unfold s16
  (repeat (first | refine G.step ?_ | (refine Gs.box ?_; intro _) | (refine Gs.alloc ?_; intro _)))
  refine Gs.call0 (prove_ok g x s side h hx hs) ?_
  rintro _ h1 le1 ⟨q, l, e, hp, hr, rfl⟩
  (repeat (first | refine G.step ?_ | (refine Gs.alloc ?_; intro _) | refine Gs.store ?_ | refine G.retc ?_))
  exact Gs.ret ⟨q, l, e, hp, hr, rfl⟩
theorem sameP_ok (l m : List Sp) (q r : SlH) (e f : Int) (h : Hp) (hq : RdE h (slv q) eSp 3 l) (hr : RdE h (slv r) eSp 3 m) (hl : l.length ≤ 4611686018427387904) (hm : m.length ≤ 4611686018427387904) : Ct Try.prog 15 [.agg #[slv q, I e], .agg #[slv r, I f]] h (fun _ v => v = .bool (decide (l = m) && decide (e = f))) := by
  refine ct15 ?_
  intro w0
  unfold s15
  (repeat (first | refine G.step ?_ | (refine Gs.box ?_; intro _)))
  refine Gs.callv0 (sameL_ok l m q r h hq hr hl hm) ?_
  skip
  refine G.gdbt ?_ ?_ <;> intro h1
  · (repeat (refine G.step ?_))
    exact Gs.ret (by rw [h1, Bool.true_and])
  · exact Gs.ret (by rw [h1, Bool.false_and])
theorem turned_ok (g : Gr) (x : GrH) (h : Hp) (hx : GrR h x g) : Ct Try.prog 27 [vG x] h (fun _ v => v = vG (x.2, x.1)) := by
  refine ct27 ?_
  intro w0
  unfold s27
  (repeat (first | refine G.step ?_ | (refine Gs.box ?_; intro _) | (refine Gs.alloc ?_; intro _) | refine Gs.store ?_ | refine G.retc ?_))
  exact Gs.ret rfl
/-! ### A slice of owned slices -/
section
variable {α : Type} {enc : α → List Value} {sz : Nat} {e : TypeId} {w0 : World} {h0 h : Hp} {X : WP}
def lits (e : TypeId) (sz : Nat) (enc : α → List Value) (l : List (SlH × List α)) : List Itm := l.map fun p => slI e sz enc p
theorem set_perm {β : Type} : ∀ (L : List β) (i : Nat) (_ : i < L.length) (x : β), (L.set i x).Perm (x :: L.eraseIdx i)
  | [], i, hi, x => by simp at hi
  | y :: L, 0, hi, x => by simp
  | y :: L, i + 1, hi, x => ((set_perm L i (by simpa using hi) x).cons y).trans (.swap _ _ _)
theorem Gs.litsOut (pre : List Itm) (l : List (SlH × List α)) (i : Nat) (hi : i < l.length) (hk : ∀ Rest, (∀ p, (lits e sz enc (l.set i p)).Perm (slI e sz enc p :: Rest)) → Gs w0 h0 h (pre ++ slI e sz enc l[i] :: Rest) X) : Gs w0 h0 h (pre ++ lits e sz enc l) X := by
  have hi' : i < (lits e sz enc l).length := by unfold lits; simpa using hi
  have hset : ∀ p, lits e sz enc (l.set i p) = (lits e sz enc l).set i (slI e sz enc p) := fun p => by unfold lits; rw [List.map_set]
  refine Gs.perm ?_ (hk ((lits e sz enc l).eraseIdx i) fun p => by rw [hset]; exact set_perm _ i hi' _)
  refine List.Perm.append_left pre ?_
  have h5 := set_perm _ i hi' (lits e sz enc l)[i]
  rw [List.set_getElem_self] at h5
  have hget : (lits e sz enc l)[i] = slI e sz enc l[i] := by simp only [lits, List.getElem_map]
  rw [hget] at h5
  exact h5
theorem Gs.litsIn (pre : List Itm) {l : List (SlH × List α)} {i : Nat} {Rest : List Itm} (hp : ∀ p, (lits e sz enc (l.set i p)).Perm (slI e sz enc p :: Rest)) (p : SlH × List α) (hk : Gs w0 h0 h (pre ++ lits e sz enc (l.set i p)) X) : Gs w0 h0 h (pre ++ slI e sz enc p :: Rest) X :=
  Gs.perm (List.Perm.append_left pre (hp p).symm) hk
theorem Gs.litsNil (pre : List Itm) : ∀ (n : Nat), (Gs w0 h0 h (pre ++ lits e sz enc (List.replicate n ((none, 0, 0), []))) X) → Gs w0 h0 h pre X
  | 0, hk => by simpa [lits] using hk
  | n + 1, hk => by
    refine Gs.litsNil pre n ?_
    refine Gs.nilsl e sz ?_
    refine Gs.perm ?_ hk
    exact List.perm_middle.symm
theorem Gs.litsFreeze [he : Enc enc sz] (hsz : sz ≠ 0) (pre : List Itm) : ∀ (l : List (SlH × List α)) {h : Hp}, (∀ h', Hle h h' → (∀ p ∈ l, RdE h' (slv p.1) enc sz p.2) → Gs w0 h0 h' pre X) → Gs w0 h0 h (pre ++ lits e sz enc l) X
  | [], h, hk => by
    have := hk h (Hle.refl h) (fun p hp => ((by cases hp)))
    unfold lits
    rw [List.map_nil, List.append_nil]
    exact this
  | q :: l, h, hk => by
    have hq : (pre ++ lits e sz enc (q :: l)).Perm (.sl (slv q.1) e sz (fl enc q.2) :: (pre ++ lits e sz enc l)) := List.perm_middle
    refine Gs.perm hq ?_
    refine Gs.freezeE (enc := enc) (v := slv q.1) hsz ?_
    intro h' hle hr
    refine Gs.litsFreeze hsz pre l fun h2 hle2 hall => hk h2 (hle.trans hle2) fun p hp => ?_
    rcases List.mem_cons.1 hp with rfl | hp
    · exact hr.mono hle2
    · exact hall p hp
end
theorem all2_map {α β γ : Type} {R : β → γ → Prop} {f : α → β} {k : α → γ} : ∀ (l : List α), (∀ x ∈ l, R (f x) (k x)) → All2 R (l.map f) (l.map k)
  | [], _ => .nil
  | x :: l, h => .cons (h x (by simp)) (all2_map l fun y hy => h y (by simp [hy]))
theorem u8lt (b : UInt8) : 0 ≤ (b.toNat : Int) ∧ (b.toNat : Int) < 256 := by have := b.toNat_lt; omega
instance ix30 {S : WP} {b o : Nat} : Yd Try.prog S (V (Instr.indexAt 51 (ptr b o) (.int .i64 0))) (ptr b o) := Yd.ixA (sz := 1) (e := 5) (n := 3) ⟨by decide, by decide⟩ rfl
instance ix31 {S : WP} {b o c : Nat} [hc : AddN o 1 c] : Yd Try.prog S (V (Instr.indexAt 51 (ptr b o) (.int .i64 1))) (ptr b c) := Yd.ixA (sz := 1) (e := 5) (n := 3) ⟨by decide, by decide⟩ hc.ok
instance ix32 {S : WP} {b o c : Nat} [hc : AddN o 2 c] : Yd Try.prog S (V (Instr.indexAt 51 (ptr b o) (.int .i64 2))) (ptr b c) := Yd.ixA (sz := 1) (e := 5) (n := 3) ⟨by decide, by decide⟩ hc.ok
instance ix20 {S : WP} {b o : Nat} : Yd Try.prog S (V (Instr.indexAt 69 (ptr b o) (.int .i64 0))) (ptr b o) := Yd.ixA (sz := 1) (e := 5) (n := 2) ⟨by decide, by decide⟩ rfl
instance ix21 {S : WP} {b o c : Nat} [hc : AddN o 1 c] : Yd Try.prog S (V (Instr.indexAt 69 (ptr b o) (.int .i64 1))) (ptr b c) := Yd.ixA (sz := 1) (e := 5) (n := 2) ⟨by decide, by decide⟩ hc.ok
/-- A spot of a graph, with few free moves. -/
def S4 (g : Gr) (s : Sp) : Prop := 0 ≤ s.1 ∧ s.1 < g.L.length ∧ -4 ≤ s.2.1 ∧ s.2.1 ≤ 4 ∧ (s.2.2 = 0 ∨ s.2.2 = 1)
theorem S4.sn {g : Gr} {s : Sp} (h : S4 g s) : SN g 16 s := ⟨h.1, h.2.1, by have := h.2.2.1; omega, by have := h.2.2.2.1; omega, h.2.2.2.2⟩
theorem spotL_ok (g : Gr) (x : GrH) (a b c : UInt8) (h : Hp) (hx : GrR h x g) (hg : GV g) : Ct Try.prog 24 [vG x, .agg #[.int .u8 a.toNat, .int .u8 b.toNat, .int .u8 c.toNat]] h (fun _ v => ∃ s : Sp, v = vSp s ∧ S4 g s) := by
  refine ct24 ?_
  intro w0
  unfold s24
  have hl0 := hg.l0
  have hl1 := hg.l1
  have ha := u8lt a
  have hb := u8lt b
  have hc := u8lt c
  refine Gs.box ?_; intro xb
  refine Gs.box ?_; intro wb
  refine Gs.alloc ?_; intro rb
  refine Gs.dr ?_
  refine G.qkp ?_
  refine Gs.qkb ?_
  refine G.qconv (by omega) ?_
  refine G.qkp ?_
  refine Gs.qkb ?_
  refine Gs.qlenF hx.l (by omega) ?_
  refine G.qremN (by omega) (by omega) ?_
  refine G.qkp ?_
  refine Gs.qkb ?_
  refine G.qconv (by omega) ?_
  refine G.qremN (by omega) (by omega) ?_
  refine G.qsub (by omega) ?_
  refine G.qkp ?_
  refine Gs.qkb ?_
  refine G.qconv (by omega) ?_
  refine G.qremN (by omega) (by omega) ?_
  have e1 := Int.emod_nonneg (a.toNat : Int) (show (g.L.length : Int) ≠ 0 by omega)
  have e2 := Int.emod_lt_of_pos (a.toNat : Int) (show (0 : Int) < g.L.length by omega)
  (repeat (first | refine Gs.store ?_ | refine G.retc ?_ | refine G.qkp ?_))
  refine Gs.ret ⟨((a.toNat : Int) % g.L.length, (b.toNat : Int) % 9 - 4, (c.toNat : Int) % 2), rfl, ?_⟩
  unfold S4
  dsimp only
  omega
end Go.Proofs.Ytnepdmnkhjpnhaa
end

section
set_option linter.unusedVariables false
set_option linter.unusedSimpArgs false
set_option linter.unusedSectionVars false
set_option maxHeartbeats 8000000
namespace Go.Proofs.Ytnepdmnkhjpnhaa
open Go Go.Sk Go.Lp Go.RowKit
variable {M : Go.Sk.Mode}
abbrev eB2 : UInt8 × UInt8 → List Value := fun p => [.int .u8 p.1.toNat, .int .u8 p.2.toNat]
instance encB2 : Enc eB2 2 := ⟨fun _ => rfl, fun a v h => by
  simp only [eB2, List.mem_cons, List.not_mem_nil, or_false] at h
  rcases h with rfl | rfl <;> rfl⟩
/-- Options of a made graph, node by node. -/
def Acy (nodes : Nat) (loops : Bool) (k : Nat) (l : List (SlH × List Int)) : Prop := ∀ i (h : i < l.length), l[i].2.length ≤ k ∧ ∀ m ∈ l[i].2, 0 ≤ m ∧ m < nodes ∧ (loops = false → m < i)
structure MadeS (g : Gr) (loops : Bool) (n : Nat) : Prop where
  v : GV g
  l5 : g.L.length ≤ 5
  aL : ∀ i (h : i < g.L.length), g.L[i].length ≤ n ∧ (loops = false → ∀ m ∈ g.L[i], m < i)
  aR : ∀ i (h : i < g.R.length), g.R[i].length ≤ n ∧ (loops = false → ∀ m ∈ g.R[i], m < i)
theorem Acy.set {nodes : Nat} {loops : Bool} {k : Nat} {l : List (SlH × List Int)} (h : Acy nodes loops k l) {i : Nat} (hi : i < l.length) {q : SlH} {m : Int} (h0 : 0 ≤ m) (h1 : m < nodes) (h2 : loops = false → m < i) : Acy nodes loops (k + 1) (l.set i (q, l[i].2 ++ [m])) := by
  intro j hj
  rw [List.length_set] at hj
  rw [List.getElem_set]
  split
  · rename_i e
    subst e
    obtain ⟨a1, a2⟩ := h i hi
    refine ⟨by simp; omega, fun x hx => ?_⟩
    rcases List.mem_append.1 hx with hx | hx
    · exact a2 x hx
    · rw [List.mem_singleton] at hx; subst hx; exact ⟨h0, h1, h2⟩
  · obtain ⟨a1, a2⟩ := h j hj
    exact ⟨by omega, a2⟩
theorem Acy.mono {nodes : Nat} {loops : Bool} {k : Nat} {l : List (SlH × List Int)} (h : Acy nodes loops k l) : Acy nodes loops (k + 1) l := fun i hi => ⟨by have := (h i hi).1; omega, (h i hi).2⟩
theorem Acy.rep {nodes : Nat} {loops : Bool} {n : Nat} : Acy nodes loops 0 (List.replicate n ((none, 0, 0), [])) := fun i hi => by
  rw [List.getElem_replicate]
  exact ⟨Nat.le_refl _, fun m hm => ((by cases hm))⟩
theorem map_fst_set (l : List (SlH × List Int)) (i : Nat) (p : SlH × List Int) : (l.set i p).map Prod.fst = (l.map Prod.fst).set i p.1 := by rw [List.map_set]
abbrev litsI := lits (α := Int) 3 1 eInt
abbrev LMd (xb rb : Nat) (ql qr : SlH) (lL lR : List (SlH × List Int)) : List Itm := .sl (slv ql) 49 1 (fl eSlH (lL.map Prod.fst)) :: .sl (slv qr) 49 1 (fl eSlH (lR.map Prod.fst)) :: .blk xb [slv ql, slv qr] 27 :: .blk rb [.slice none 0 0, .slice none 0 0] 27 :: litsI (lL ++ lR)
theorem made_ok (l : List (UInt8 × UInt8)) (q : SlH) (n : UInt8) (loops : Bool) (h : Hp) (hq : RdE h (slv q) eB2 2 l) (hll : l.length ≤ 9223372036854775807) : Ct Try.prog 12 [slv q, .int .u8 n.toNat, .bool loops] h (fun h' v => ∃ (x : GrH) (g : Gr), v = vG x ∧ GrR h' x g ∧ MadeS g loops (min 20 l.length)) := by
  refine ct12 ?_
  intro w0
  unfold s12
  have hn := u8lt n
  (repeat (first | refine G.rem (by omega) ?_ | refine G.conv (by omega) ?_ | refine G.step ?_ | (refine Gs.alloc ?_; intro _)))
  rename_i rb
  rw [Int.tmod_eq_emod_of_nonneg hn.1]
  obtain ⟨nodes, hnodes, hn1, hn5⟩ : ∃ N : Nat, 1 + (n.toNat : Int) % 5 = N ∧ 1 ≤ N ∧ N ≤ 5 := ⟨(1 + (n.toNat : Int) % 5).toNat, by omega, by omega, by omega⟩
  rw [wrap_in (by omega), hnodes]
  refine G.jnk (fun a S' => ∃ (xb : Nat) (ql qr : SlH), a = ptr xb 0 ∧ S' = St w0 h h [.sl (slv ql) 49 1 (fl eSlH (List.replicate nodes (none, 0, 0))), .sl (slv qr) 49 1 (fl eSlH (List.replicate nodes (none, 0, 0))), .blk xb [slv ql, slv qr] 27, .blk rb [.slice none 0 0, .slice none 0 0] 27]) ?_ ?_
  · rintro _ _ ⟨xb, ql, qr, rfl, rfl⟩
    refine G.jk ?_; intro _
    refine Gs.litsNil (e := 3) (sz := 1) (enc := eInt) [_, _, _, _] (nodes + nodes) ?_
    have hrep : List.replicate (nodes + nodes) (((none, 0, 0), []) : SlH × List Int) = List.replicate nodes ((none, 0, 0), []) ++ List.replicate nodes ((none, 0, 0), []) := List.replicate_append_replicate.symm
    rw [hrep]
    have hmap : (List.replicate nodes (((none, 0, 0), []) : SlH × List Int)).map Prod.fst = List.replicate nodes (none, 0, 0) := by simp
    refine Gs.lp (β := Nat × List (SlH × List Int) × List (SlH × List Int)) (fun u => I u.1) (fun _ => h) (fun u => LMd xb rb ql qr u.2.1 u.2.2) (fun u => u.1 ≤ 20 ∧ u.1 ≤ l.length ∧ u.2.1.length = nodes ∧ u.2.2.length = nodes ∧ Acy nodes loops u.1 u.2.1 ∧ Acy nodes loops u.1 u.2.2) (fun u => 20 - u.1) (0, List.replicate nodes ((none, 0, 0), []), List.replicate nodes ((none, 0, 0), [])) rfl ⟨by simp, by simp, by simp, by simp, Acy.rep, Acy.rep⟩ (fun _ s => by dsimp only [LMd]; rw [hmap]; exact s) ?_
    rintro ⟨i, lL, lR⟩ ⟨hi, hil, eL, eR, aL, aR⟩ cont hc
    dsimp only at hi hil eL eR aL aR hc ⊢
    refine G.jk ?_; intro _
    refine G.jnP (fun j => j = .bool (decide (i < l.length ∧ i < 20))) ?_ ?_
    · rintro _ rfl
      refine G.jk ?_; intro _
      refine G.ifd ?_ ?_ <;> intro hgo
      · have hlt := hgo.1
        refine G.jnk (fun (_ : Unit) S' => ∃ lL' lR' : List (SlH × List Int), lL'.length = nodes ∧ lR'.length = nodes ∧ Acy nodes loops (i + 1) lL' ∧ Acy nodes loops (i + 1) lR' ∧ S' = St w0 h h (LMd xb rb ql qr lL' lR')) ?_ ?_
        · rintro _ _ ⟨lL', lR', b1, b2, b3, b4, rfl⟩
          refine G.jk ?_; intro _
          (repeat (refine G.add (by omega) ?_))
          exact Gs.go (t' := I ((i + 1 : Nat) : Int)) (hc (i + 1, lL', lR') ⟨by dsimp only; omega, by dsimp only; omega, b1, b2, b3, b4⟩ (by dsimp only; omega)) (by simp)
        · intro k8 hk8
          have hu1 := u8lt l[i].1
          have hu2 := u8lt l[i].2
          refine Gs.dr ?_
          refine Gs.qindexE hq hlt ?_
          intro b1 o1 hp1
          refine G.qkp ?_
          refine Gs.qloadP1 hp1 ?_
          refine G.qconv (by omega) ?_
          refine G.qremN (by omega) (by omega) ?_
          refine Gs.qindexE hq hlt ?_
          intro b2 o2 hp2
          refine G.qkp ?_
          refine Gs.qloadP1 hp2.field ?_
          refine G.qconv (by omega) ?_
          refine G.qremN (by omega) (by omega) ?_
          obtain ⟨fr, hfr, hfr2⟩ : ∃ k : Nat, (l[i].1.toNat : Int) % nodes = k ∧ k < nodes := by
            have e1 := Int.emod_nonneg (l[i].1.toNat : Int) (show (nodes : Int) ≠ 0 by omega)
            have e2 := Int.emod_lt_of_pos (l[i].1.toNat : Int) (show (0 : Int) < nodes by omega)
            exact ⟨((l[i].1.toNat : Int) % nodes).toNat, by omega, by omega⟩
          obtain ⟨to, hto, hto2⟩ : ∃ k : Nat, (l[i].2.toNat : Int) % nodes = k ∧ k < nodes := by
            have e1 := Int.emod_nonneg (l[i].2.toNat : Int) (show (nodes : Int) ≠ 0 by omega)
            have e2 := Int.emod_lt_of_pos (l[i].2.toNat : Int) (show (0 : Int) < nodes by omega)
            exact ⟨((l[i].2.toNat : Int) % nodes).toNat, by omega, by omega⟩
          rw [hfr, hto]
          refine G.jnP (fun j => j = .bool (decide (loops = false ∧ fr ≤ to))) ?_ ?_
          · rintro _ rfl
            refine G.jk ?_; intro _
            refine G.ifd ?_ ?_ <;> intro hskip
            · exact hk8 () _ ⟨lL, lR, eL, eR, aL.mono, aR.mono, rfl⟩
            · have hac : loops = false → (to : Int) < fr := fun e => by
                have : ¬ fr ≤ to := fun h => hskip ⟨e, h⟩
                omega
              refine Gs.indexE hq hlt ?_
              intro b3 o3 hp3
              refine G.step ?_
              refine Gs.loadP1 hp3 ?_
              refine G.quo8 (by omega) (by omega) ?_
              refine G.rem8 (by omega) (by omega) ?_
              (repeat (refine G.step ?_))
              refine G.ifd ?_ ?_ <;> intro hside
              · (repeat (first | refine Gs.dr ?_ | refine G.qkp ?_ | refine Gs.qkb ?_))
                have hfl : fr < (lL.map Prod.fst).length := by rw [List.length_map, eL]; exact hfr2
                have hflL : fr < lL.length := by omega
                have hall := (aL fr hflL).1
                refine Gs.qoindex (enc := eSlH) (v := slv ql) (l := lL.map Prod.fst) hfl ?_
                intro b4 o4 hp4
                refine Gs.qoloadE (v := slv ql) hp4 ?_
                rw [List.getElem_map]
                refine Gs.buildSlice (out := [I to]) (by decide) ?_
                intro eb
                refine Gs.withsl ?_
                (repeat (first | refine G.withT ?_ | refine Gs.withb ?_))
                refine Gs.litsOut (e := 3) (sz := 1) (enc := eInt) [_, _, _, _, _] (lL ++ lR) fr (by rw [List.length_append]; omega) ?_
                intro Rest hRest
                dsimp only [List.cons_append, List.nil_append]
                rw [List.getElem_append_left hflL]
                refine Gs.appendO (enc := eInt) (l := lL[fr].2) (m := [(to : Int)]) (e2 := 3) (by simp [fl]) (by simp; omega) (by simp; omega) ?_
                intro v'
                refine Gs.slH (v := v') ?_
                rintro q' rfl
                (repeat (first | refine G.withT ?_ | refine Gs.withb ?_))
                refine Gs.qsetE (enc := eSlH) (l := lL.map Prod.fst) (a := q') (i := fr) hfl ?_
                intro _
                refine Gs.sel (L' := .sl (slv ql) 49 1 (fl eSlH ((lL.map Prod.fst).set fr q')) :: .sl (slv qr) 49 1 (fl eSlH (lR.map Prod.fst)) :: .blk xb [slv ql, slv qr] 27 :: .blk rb [.slice none 0 0, .slice none 0 0] 27 :: .sl (slv q') 3 1 (fl eInt (lL[fr].2 ++ [(to : Int)])) :: Rest) ?_
                refine Gs.litsIn (i := fr) [_, _, _, _] hRest (q', lL[fr].2 ++ [(to : Int)]) ?_
                dsimp only [List.cons_append, List.nil_append]
                rw [List.set_append_left fr _ hflL, ← map_fst_set lL fr (q', lL[fr].2 ++ [(to : Int)])]
                exact hk8 () _ ⟨lL.set fr (q', lL[fr].2 ++ [(to : Int)]), lR, by rw [List.length_set]; exact eL, eR, aL.set hflL (by omega) (by omega) hac, aR.mono, rfl⟩
              · (repeat (first | refine Gs.dr ?_ | refine G.qkp ?_ | refine Gs.qkb ?_))
                have hfl : fr < (lR.map Prod.fst).length := by rw [List.length_map, eR]; exact hfr2
                have hflR : fr < lR.length := by omega
                have hall := (aR fr hflR).1
                refine Gs.qoindex (enc := eSlH) (v := slv qr) (l := lR.map Prod.fst) hfl ?_
                intro b4 o4 hp4
                refine Gs.qoloadE (v := slv qr) hp4 ?_
                rw [List.getElem_map]
                refine Gs.buildSlice (out := [I to]) (by decide) ?_
                intro eb
                refine Gs.withsl ?_
                (repeat (first | refine G.withT ?_ | refine Gs.withb ?_))
                refine Gs.litsOut (e := 3) (sz := 1) (enc := eInt) [_, _, _, _, _] (lL ++ lR) (nodes + fr) (by rw [List.length_append]; omega) ?_
                intro Rest hRest
                dsimp only [List.cons_append, List.nil_append]
                have hget : (lL ++ lR)[nodes + fr]'(by rw [List.length_append]; omega) = lR[fr] := by
                  rw [List.getElem_append_right (by omega)]
                  congr 1
                  omega
                rw [hget]
                refine Gs.appendO (enc := eInt) (l := lR[fr].2) (m := [(to : Int)]) (e2 := 3) (by simp [fl]) (by simp; omega) (by simp; omega) ?_
                intro v'
                refine Gs.slH (v := v') ?_
                rintro q' rfl
                (repeat (first | refine G.withT ?_ | refine Gs.withb ?_))
                refine Gs.qsetE (enc := eSlH) (l := lR.map Prod.fst) (a := q') (i := fr) hfl ?_
                intro _
                refine Gs.sel (L' := .sl (slv ql) 49 1 (fl eSlH (lL.map Prod.fst)) :: .sl (slv qr) 49 1 (fl eSlH ((lR.map Prod.fst).set fr q')) :: .blk xb [slv ql, slv qr] 27 :: .blk rb [.slice none 0 0, .slice none 0 0] 27 :: .sl (slv q') 3 1 (fl eInt (lR[fr].2 ++ [(to : Int)])) :: Rest) ?_
                refine Gs.litsIn (i := nodes + fr) [_, _, _, _] hRest (q', lR[fr].2 ++ [(to : Int)]) ?_
                dsimp only [List.cons_append, List.nil_append]
                have hset : (lL ++ lR).set (nodes + fr) (q', lR[fr].2 ++ [(to : Int)]) = lL ++ lR.set fr (q', lR[fr].2 ++ [(to : Int)]) := by
                  rw [List.set_append_right _ _ (by omega)]
                  congr 2
                  omega
                rw [hset, ← map_fst_set lR fr (q', lR[fr].2 ++ [(to : Int)])]
                exact hk8 () _ ⟨lL, lR.set fr (q', lR[fr].2 ++ [(to : Int)]), eL, by rw [List.length_set]; exact eR, aL.mono, aR.set hflR (by omega) (by omega) hac, rfl⟩
          · intro K2 hK2
            (repeat (refine G.step ?_))
            cases loops with
            | true =>
              (repeat (refine G.gdft ?_))
              exact hK2 _ (by rw [decide_eq_false]; exact fun h => by cases h.1)
            | false =>
              (repeat (first | refine G.step ?_ | refine G.gdtt ?_))
              refine hK2 _ ?_
              congr 1
              rw [decide_eq_decide]
              exact ⟨fun h => ⟨rfl, by omega⟩, fun h => by have := h.2; omega⟩
      · (repeat (first | refine G.step ?_ | refine Gs.store ?_ | refine G.retc ?_))
        refine Gs.litsFreeze (e := 3) (sz := 1) (enc := eInt) (by decide) [_, _, _, _] (lL ++ lR) ?_
        intro h2 le2 hall
        refine Gs.freezeE (enc := eSlH) (v := slv ql) (l := lL.map Prod.fst) (by decide) ?_
        intro h3 le3 f1
        refine Gs.freezeE (enc := eSlH) (v := slv qr) (l := lR.map Prod.fst) (by decide) ?_
        intro h4 le4 f2
        skip
        refine Gs.ret ⟨(ql, qr), ⟨lL.map Prod.snd, lR.map Prod.snd⟩, rfl, ⟨⟨lL.map Prod.fst, f1.mono le4, all2_map lL fun p hp => (hall p (List.mem_append_left _ hp)).mono (le3.trans le4)⟩, ⟨lR.map Prod.fst, f2, all2_map lR fun p hp => (hall p (List.mem_append_right _ hp)).mono (le3.trans le4)⟩⟩, ?_⟩
        refine ⟨⟨by simp; omega, by simp; omega, by simp; omega, fun m hm => ?_, fun m hm => ?_⟩, by simp; omega, fun j hj => ?_, fun j hj => ?_⟩
        · obtain ⟨p, hp, rfl⟩ := List.mem_map.1 hm
          obtain ⟨j, hj, rfl⟩ := List.getElem_of_mem hp
          obtain ⟨c1, c2⟩ := aL j hj
          refine ⟨by omega, fun z hz => ?_⟩
          have := c2 z hz
          simp only [List.length_map]
          omega
        · obtain ⟨p, hp, rfl⟩ := List.mem_map.1 hm
          obtain ⟨j, hj, rfl⟩ := List.getElem_of_mem hp
          obtain ⟨c1, c2⟩ := aR j hj
          refine ⟨by omega, fun z hz => ?_⟩
          have := c2 z hz
          simp only [List.length_map]
          omega
        · simp only [List.length_map] at hj
          simp only [List.getElem_map]
          obtain ⟨c1, c2⟩ := aL j hj
          exact ⟨by omega, fun e m hm => (c2 m hm).2.2 e⟩
        · simp only [List.length_map] at hj
          simp only [List.getElem_map]
          obtain ⟨c1, c2⟩ := aR j hj
          exact ⟨by omega, fun e m hm => (c2 m hm).2.2 e⟩
    · intro K2 hK2
      refine Gs.lenE hq (by omega) ?_
      (repeat (refine G.step ?_))
      refine G.gddt ?_ ?_ <;> intro c1
      · (repeat (refine G.step ?_))
        refine hK2 _ ?_
        congr 1
        rw [decide_eq_decide]
        omega
      · exact hK2 _ (by rw [decide_eq_false]; omega)
  · intro k5 hk5
    have hz : eSlH (none, 0, 0) = [.slice none 0 0] := rfl
    refine Gs.dr ?_
    refine G.or2 ?_ ?_
    · refine Gs.make (enc := eSlH) (a0 := (none, 0, 0)) rfl (by omega) (by omega) (by omega) ?_
      intro v1; refine Gs.slH (v := v1) ?_; rintro q1 rfl; rw [Int.toNat_natCast]
      refine G.or2 ?_ ?_
      · refine Gs.make (enc := eSlH) (a0 := (none, 0, 0)) rfl (by omega) (by omega) (by omega) ?_
        intro v2; refine Gs.slH (v := v2) ?_; rintro q2 rfl; rw [Int.toNat_natCast]
        (repeat (first | (refine Gs.alloc ?_; intro _) | refine Gs.store ?_ | refine G.qkp ?_ | refine G.withT ?_))
        rename_i xb
        refine Gs.sel (L' := [.sl (slv q1) 49 1 (fl eSlH (List.replicate nodes (none, 0, 0))), .sl (slv q2) 49 1 (fl eSlH (List.replicate nodes (none, 0, 0))), .blk xb [slv q1, slv q2] 27, .blk rb [.slice none 0 0, .slice none 0 0] 27]) ?_
        exact hk5 _ _ ⟨xb, q1, q2, rfl, rfl⟩
      · (repeat (refine Gs.alloc ?_; intro _))
        rename_i xb
        refine Gs.make (enc := eSlH) (a0 := (none, 0, 0)) rfl (by omega) (by omega) (by omega) ?_
        intro v2; refine Gs.slH (v := v2) ?_; rintro q2 rfl; rw [Int.toNat_natCast]
        (repeat (first | refine Gs.store ?_ | refine G.qkp ?_))
        refine Gs.sel (L' := [.sl (slv q1) 49 1 (fl eSlH (List.replicate nodes (none, 0, 0))), .sl (slv q2) 49 1 (fl eSlH (List.replicate nodes (none, 0, 0))), .blk xb [slv q1, slv q2] 27, .blk rb [.slice none 0 0, .slice none 0 0] 27]) ?_
        exact hk5 _ _ ⟨xb, q1, q2, rfl, rfl⟩
    · refine G.or2 ?_ ?_
      · refine Gs.make (enc := eSlH) (a0 := (none, 0, 0)) rfl (by omega) (by omega) (by omega) ?_
        intro v1; refine Gs.slH (v := v1) ?_; rintro q1 rfl; rw [Int.toNat_natCast]
        refine G.or2 ?_ ?_
        · refine Gs.make (enc := eSlH) (a0 := (none, 0, 0)) rfl (by omega) (by omega) (by omega) ?_
          intro v2; refine Gs.slH (v := v2) ?_; rintro q2 rfl; rw [Int.toNat_natCast]
          (repeat (first | (refine Gs.alloc ?_; intro _) | refine Gs.store ?_ | refine G.qkp ?_ | refine G.withT ?_))
          rename_i xb
          refine Gs.sel (L' := [.sl (slv q2) 49 1 (fl eSlH (List.replicate nodes (none, 0, 0))), .sl (slv q1) 49 1 (fl eSlH (List.replicate nodes (none, 0, 0))), .blk xb [slv q2, slv q1] 27, .blk rb [.slice none 0 0, .slice none 0 0] 27]) ?_
          exact hk5 _ _ ⟨xb, q2, q1, rfl, rfl⟩
        · (repeat (refine Gs.alloc ?_; intro _))
          rename_i xb
          refine Gs.make (enc := eSlH) (a0 := (none, 0, 0)) rfl (by omega) (by omega) (by omega) ?_
          intro v2; refine Gs.slH (v := v2) ?_; rintro q2 rfl; rw [Int.toNat_natCast]
          (repeat (first | refine Gs.store ?_ | refine G.qkp ?_))
          refine Gs.sel (L' := [.sl (slv q2) 49 1 (fl eSlH (List.replicate nodes (none, 0, 0))), .sl (slv q1) 49 1 (fl eSlH (List.replicate nodes (none, 0, 0))), .blk xb [slv q2, slv q1] 27, .blk rb [.slice none 0 0, .slice none 0 0] 27]) ?_
          exact hk5 _ _ ⟨xb, q2, q1, rfl, rfl⟩
      · (repeat (refine Gs.alloc ?_; intro _))
        rename_i xb
        refine G.or2 ?_ ?_
        · refine Gs.make (enc := eSlH) (a0 := (none, 0, 0)) rfl (by omega) (by omega) (by omega) ?_
          intro v1; refine Gs.slH (v := v1) ?_; rintro q1 rfl; rw [Int.toNat_natCast]
          refine Gs.make (enc := eSlH) (a0 := (none, 0, 0)) rfl (by omega) (by omega) (by omega) ?_
          intro v2; refine Gs.slH (v := v2) ?_; rintro q2 rfl; rw [Int.toNat_natCast]
          (repeat (first | refine Gs.store ?_ | refine G.qkp ?_))
          refine Gs.sel (L' := [.sl (slv q1) 49 1 (fl eSlH (List.replicate nodes (none, 0, 0))), .sl (slv q2) 49 1 (fl eSlH (List.replicate nodes (none, 0, 0))), .blk xb [slv q1, slv q2] 27, .blk rb [.slice none 0 0, .slice none 0 0] 27]) ?_
          exact hk5 _ _ ⟨xb, q1, q2, rfl, rfl⟩
        · refine Gs.make (enc := eSlH) (a0 := (none, 0, 0)) rfl (by omega) (by omega) (by omega) ?_
          intro v1; refine Gs.slH (v := v1) ?_; rintro q1 rfl; rw [Int.toNat_natCast]
          refine Gs.make (enc := eSlH) (a0 := (none, 0, 0)) rfl (by omega) (by omega) (by omega) ?_
          intro v2; refine Gs.slH (v := v2) ?_; rintro q2 rfl; rw [Int.toNat_natCast]
          (repeat (first | refine Gs.store ?_ | refine G.qkp ?_))
          refine Gs.sel (L' := [.sl (slv q2) 49 1 (fl eSlH (List.replicate nodes (none, 0, 0))), .sl (slv q1) 49 1 (fl eSlH (List.replicate nodes (none, 0, 0))), .blk xb [slv q2, slv q1] 27, .blk rb [.slice none 0 0, .slice none 0 0] 27]) ?_
          exact hk5 _ _ ⟨xb, q2, q1, rfl, rfl⟩
end Go.Proofs.Ytnepdmnkhjpnhaa
end

section
set_option linter.unusedVariables false
set_option linter.unusedSimpArgs false
set_option linter.unusedSectionVars false
set_option maxHeartbeats 8000000
namespace Go.Proofs.Ytnepdmnkhjpnhaa
open Go Go.Sk Go.Lp Go.RowKit
variable {M : Go.Sk.Mode}
/-! ### The fixed examples -/
def g0 : Gr := ⟨[[], [1]], [[], [1]]⟩
theorem g0_gv : gvB g0 = true := by decide
theorem g0_GV : GV g0 := gvB_iff.1 g0_gv
theorem mv0_nil {k w : Int} (h : ¬ 0 < k * stp (0, k, w)) : mv g0 (0, k, w) = [] := by
  unfold mv
  have : opts g0 (0, k, w) = [] := by unfold opts g0; dsimp only; split <;> rfl
  rw [this, if_neg h]
  rfl
theorem mv0_one {k w : Int} (h : 0 < k * stp (0, k, w)) : mv g0 (0, k, w) = [(0, k - stp (0, k, w), 1 - w)] := by
  unfold mv
  have : opts g0 (0, k, w) = [] := by unfold opts g0; dsimp only; split <;> rfl
  rw [this, if_pos h]
  rfl
theorem out0_loss {k w : Int} (h : ¬ 0 < k * stp (0, k, w)) : Out g0 3 (0, k, w) := .loss fun m hm => by rw [mv0_nil h] at hm; cases hm
theorem left_a {k : Int} (h : k ≤ 0) : left g0 (0, k, 0) = 3 := (left_eq3 (.inl rfl)).2 (.inl ⟨rfl, out0_loss (by simp [stp]; omega)⟩)
theorem left_b {k : Int} (h : 0 < k) : left g0 (0, k, 0) = 1 := (left_eq1 (.inl rfl)).2 (.inl ⟨rfl, .win (m := (0, k - 1, 1)) (by rw [mv0_one (by simp [stp]; omega)]; simp [stp]) (out0_loss (by simp [stp]; omega))⟩)
theorem left_c {k : Int} (h : 0 ≤ k) : left g0 (0, k, 1) = 1 := (left_eq1 (.inr rfl)).2 (.inr ⟨rfl, out0_loss (by simp [stp]; omega)⟩)
theorem left_d {k : Int} (h : k < 0) : left g0 (0, k, 1) = 3 := (left_eq3 (.inr rfl)).2 (.inr ⟨rfl, .win (m := (0, k + 1, 0)) (by rw [mv0_one (by simp [stp]; omega)]; simp [stp]) (out0_loss (by simp [stp]; omega))⟩)
theorem no1 {r : Int} {s : Sp} (h : Out g0 r s) : s.1 = 1 → (s.2.2 = 0 ∨ s.2.2 = 1) → False := by
  induction h with
  | @win s m hm _ ih =>
    intro e hw
    obtain ⟨a, k, w⟩ := s
    dsimp only at e hw
    subst e
    refine ih ?_ (who_of_mv hw hm)
    rcases mv_mem.1 hm with ⟨i, hi, rfl⟩ | ⟨_, rfl⟩
    · have : opts g0 (1, k, w) = [1] := by unfold opts g0; dsimp only; split <;> rfl
      rw [this] at hi
      simpa using hi
    · rfl
  | @loss s hl ih =>
    intro e hw
    obtain ⟨a, k, w⟩ := s
    dsimp only at e hw
    subst e
    have hm : (1, k, 1 - w) ∈ mv g0 (1, k, w) := mv_mem.2 (.inl ⟨1, by unfold opts g0; dsimp only; split <;> simp, rfl⟩)
    exact ih _ hm rfl (who_of_mv (g := g0) (s := (1, k, w)) hw hm)
theorem left_1 {k w : Int} (hw : w = 0 ∨ w = 1) : left g0 (1, k, w) = 2 := by
  have h1 := left_eq1 (g := g0) (s := (1, k, w)) hw
  have h3 := left_eq3 (g := g0) (s := (1, k, w)) hw
  have hc := left_cases g0 (1, k, w)
  have n1 : ¬ Out g0 1 (1, k, w) := fun h => no1 h rfl hw
  have n3 : ¬ Out g0 3 (1, k, w) := fun h => no1 h rfl hw
  have m1 : left g0 (1, k, w) ≠ 1 := fun h => by rcases h1.1 h with ⟨_, h⟩ | ⟨_, h⟩ <;> contradiction
  have m3 : left g0 (1, k, w) ≠ 3 := fun h => by rcases h3.1 h with ⟨_, h⟩ | ⟨_, h⟩ <;> contradiction
  omega
theorem bd_0 : BdS g0 0 (0, 0, 0) := .inr (.inr ⟨g0_gv, by decide, ⟨by decide, by decide, fun _ => by show left g0 (0, -0, 1) ≠ 3; rw [left_c (by decide)]; decide, fun k h1 h2 hn => hn (left_d (by dsimp only at h1; omega))⟩, ⟨by decide, by decide, fun _ => by show left g0 (0, -0, 0) ≠ 1; rw [left_a (by decide)]; decide, fun k h1 h2 hn => hn (left_b (by dsimp only at h1; omega))⟩, rfl⟩)
theorem bd_1 : BdS g0 1 (8, -8, 0) := .inr (.inr ⟨g0_gv, by decide, ⟨by decide, by decide, fun _ => by show left g0 (1, _, 1) ≠ 3; rw [left_1 (.inr rfl)]; decide, fun k h1 h2 => by dsimp only at h1; omega⟩, ⟨by decide, by decide, fun _ => by show left g0 (1, _, 0) ≠ 1; rw [left_1 (.inl rfl)]; decide, fun k h1 h2 => by dsimp only at h1; omega⟩, rfl⟩)
def around : List Sp := [(1, 0, 0), (1, 0, 1)]
theorem pv_1 : PvS g0 (1, 0, 0) 0 around 0 := by
  refine .inr (.inr (.inr ⟨g0_gv, by decide, by unfold Hd; rw [left_1 (.inl rfl)]; decide, ⟨by unfold around; simp [lt], fun t => ⟨fun h => ?_, fun h => ?_⟩⟩, rfl⟩))
  · unfold around at h
    rcases List.mem_cons.1 h with rfl | h
    · exact .here
    · rw [List.mem_singleton] at h
      subst h
      exact .step .here (by decide) (.inr (by unfold Hd; rw [left_1 (.inr rfl)]; decide))
  · have m0 : mv g0 (1, 0, 0) = [(1, 0, 1)] := by decide
    have m1 : mv g0 (1, 0, 1) = [(1, 0, 0)] := by decide
    induction h with
    | here => decide
    | step _ hm _ ih =>
      rcases List.mem_cons.1 ih with rfl | ih
      · rw [m0] at hm; rw [List.mem_singleton] at hm; subst hm; decide
      · rw [List.mem_singleton] at ih; subst ih; rw [m1] at hm; rw [List.mem_singleton] at hm; subst hm; decide
theorem solv_of {g : Gr} {s : Sp} (hg : gvB g = true) (hs : SN g 16 s) : solv g s = (left g s, 0) := by unfold solv; rw [if_pos hg, if_pos hs]
theorem sv1 : solv g0 (0, 0, 0) = (3, 0) := by rw [solv_of g0_gv (by decide), left_a (by decide)]
theorem sv2 : solv g0 (0, 1, 0) = (1, 0) := by rw [solv_of g0_gv (by decide), left_b (by decide)]
theorem sv3 : solv g0 (0, -1, 0) = (3, 0) := by rw [solv_of g0_gv (by decide), left_a (by decide)]
theorem sv4 : solv g0 (1, 5, 1) = (2, 0) := by rw [solv_of g0_gv (by decide), left_1 (.inr rfl)]
theorem sv5 : solv ⟨[], []⟩ (0, 0, 0) = (0, 210) := by unfold solv; rw [if_neg (by decide)]
theorem sv6 : solv g0 (2, 0, 0) = (0, 1) := by unfold solv; rw [if_pos g0_gv, if_neg (by decide)]
theorem bd_m : BdS g0 (-1) (0, 0, 1) := .inr (.inl ⟨g0_gv, by decide, rfl⟩)
theorem pv_2 : PvS g0 (0, 0, 0) 2 [] 1 := .inr (.inl ⟨g0_gv, by decide, rfl, rfl⟩)
theorem pv_3 : PvS g0 (0, 0, 0) 0 [] 211 := .inr (.inr (.inl ⟨g0_gv, by decide, by unfold Hd; rw [left_a (by decide)]; decide, rfl, rfl⟩))
theorem GrR.emp (h : Hp) : GrR h ((none, 0, 0), (none, 0, 0)) ⟨[], []⟩ := ⟨RdF.nil _ _ _ _, RdF.nil _ _ _ _⟩
theorem GS.emp : GS ⟨[], []⟩ := ⟨by decide, by decide, by simp, by simp⟩
theorem two_rd {h : Hp} {q a : SlH} (hq : RdE h (slv q) eSlH 1 [(none, 0, 0), a]) (ha : RdE h (slv a) eInt 1 [1]) : RdF h (slv q) eSlH 1 rI [[], [1]] := ⟨_, hq, .cons (RdE.nil _ _ _) (.cons ha .nil)⟩
theorem one_rd {h : Hp} {q a : SlH} {l : List Int} (hq : RdE h (slv q) eSlH 1 [a]) (ha : RdE h (slv a) eInt 1 l) : RdF h (slv q) eSlH 1 rI [l] := ⟨_, hq, .cons ha .nil⟩
theorem sanity_ok (h : Hp) : Ct Try.prog 11 [] h (fun _ v => v = .bool true) := by
  refine ct11 ?_
  intro w0
  unfold s11
  refine Gs.buildSlice (out := [I 1]) (by decide) ?_
  intro b1
  refine Gs.buildSlice (out := [.slice none 0 0, .slice (some ⟨b1, 0, none⟩) 1 1]) (by decide) ?_
  intro b2
  refine Gs.buildSlice (out := [I 1]) (by decide) ?_
  intro b3
  refine Gs.buildSlice (out := [.slice none 0 0, .slice (some ⟨b3, 0, none⟩) 1 1]) (by decide) ?_
  intro b4
  (repeat (first | refine G.step ?_ | (refine Gs.alloc ?_; intro _) | refine Gs.store ?_))
  rename_i xb
  refine Gs.freezeE (enc := eInt) (v := slv (some ⟨b1, 0, none⟩, 1, 1)) (l := [1]) (by decide) ?_
  intro h1 le1 f1
  refine Gs.freezeE (enc := eInt) (v := slv (some ⟨b3, 0, none⟩, 1, 1)) (l := [1]) (by decide) ?_
  intro h2 le2 f2
  refine Gs.freezeE (enc := eSlH) (v := slv (some ⟨b2, 0, none⟩, 2, 2)) (l := [(none, 0, 0), (some ⟨b1, 0, none⟩, 1, 1)]) (by decide) ?_
  intro h3 le3 f3
  refine Gs.freezeE (enc := eSlH) (v := slv (some ⟨b4, 0, none⟩, 2, 2)) (l := [(none, 0, 0), (some ⟨b3, 0, none⟩, 1, 1)]) (by decide) ?_
  intro h4 le4 f4
  have hG : GrR h4 ((some ⟨b2, 0, none⟩, 2, 2), (some ⟨b4, 0, none⟩, 2, 2)) g0 := ⟨two_rd (f3.mono le4) (f1.mono (le2.trans (le3.trans le4))), two_rd f4 (f2.mono (le3.trans le4))⟩
  clear f1 f2 f3 f4
  have hS : GS g0 := GS.of g0_GV
  refine G.jnP (fun j => j = .bool true) ?_ ?_
  · rintro _ rfl
    refine G.jk ?_; intro _
    refine G.jnk (fun j S' => j = .bool true ∧ ∃ h5, Hle h4 h5 ∧ S' = St w0 h h5 [.blk xb [.slice (some ⟨b2, 0, none⟩) 2 2, .slice (some ⟨b4, 0, none⟩) 2 2] 27]) ?_ ?_
    · rintro _ _ ⟨rfl, h5, le5, rfl⟩
      refine G.jk ?_; intro _
      have hG5 := hG.mono le5
      (repeat (refine G.step ?_))
      refine Gs.buildSlice (out := [I 1, I 0, I 0, I 1, I 0, I 1]) (by decide) ?_
      intro ab
      refine Gs.freezeE (enc := eSp) (v := slv (some ⟨ab, 0, none⟩, 2, 2)) (l := around) (by decide) ?_
      intro h6 le6 fa
      have hG6 := hG5.mono le6
      (repeat (first | refine Gs.dr ?_ | refine G.qkp ?_ | refine Gs.qkb ?_ | refine G.gdtt ?_))
      refine Gs.call0 (boundsL_ok g0 ((some ⟨b2, 0, none⟩, 2, 2), (some ⟨b4, 0, none⟩, 2, 2)) 0 h6 hG6 hS (by omega)) ?_
      rintro _ h7 le7 ⟨b, hb, rfl⟩
      obtain rfl := hb.uniq bd_0
      have hG7 := hG6.mono le7
      (repeat (first | refine G.qkp ?_ | refine Gs.qkb ?_ | refine G.withT ?_ | refine G.gdtt ?_))
      refine Gs.call0 (boundsL_ok g0 ((some ⟨b2, 0, none⟩, 2, 2), (some ⟨b4, 0, none⟩, 2, 2)) 1 h7 hG7 hS (by omega)) ?_
      rintro _ h8 le8 ⟨b, hb, rfl⟩
      obtain rfl := hb.uniq bd_1
      have hG8 := hG7.mono le8
      have fa8 := fa.mono (le7.trans le8)
      (repeat (first | refine G.qkp ?_ | refine Gs.qkb ?_ | refine G.withT ?_ | refine G.gdtt ?_))
      refine Gs.qindexE (i := 0) fa8 (by decide) ?_
      intro b9 o9 hp9
      refine Gs.qloadE hp9 ?_
      (repeat (refine G.qkp ?_))
      refine Gs.call0 (proveL_ok g0 ((some ⟨b2, 0, none⟩, 2, 2), (some ⟨b4, 0, none⟩, 2, 2)) (1, 0, 0) 0 h8 hG8 hS) ?_
      rintro _ h9 le9 ⟨q, l, e, hp, hr, rfl⟩
      obtain ⟨rfl, rfl⟩ := hp.uniq pv_1
      have hG9 := hG8.mono le9
      have fa9 := fa8.mono le9
      (repeat (refine G.withT ?_))
      refine Gs.callv0 (sameP_ok around around q (some ⟨ab, 0, none⟩, 2, 2) 0 0 h9 hr fa9 (by decide) (by decide)) ?_
      rw [show (decide (around = around) && decide ((0 : Int) = 0)) = true by simp]
      (repeat (first | refine Gs.qkb ?_ | refine G.gdtt ?_))
      refine Gs.qindexE (i := 1) fa9 (by decide) ?_
      intro b10 o10 hp10
      refine Gs.qloadE hp10 ?_
      (repeat (refine G.qkp ?_))
      refine Gs.callv0 (check_ok g0 ((some ⟨b2, 0, none⟩, 2, 2), (some ⟨b4, 0, none⟩, 2, 2)) (1, 0, 1) 1 (some ⟨ab, 0, none⟩, 2, 2) around h9 hG9 hS fa9 (by decide)) ?_
      rw [show ckB g0 (1, 0, 1) 1 around = true by decide]
      (repeat (first | refine G.qkp ?_ | refine Gs.qkb ?_ | refine G.gdtt ?_))
      refine Gs.buildSlice (out := [I 0, I 0, I 0]) (by decide) ?_
      intro zb
      refine Gs.freezeE (enc := eSp) (v := slv (some ⟨zb, 0, none⟩, 1, 1)) (l := [(0, 0, 0)]) (by decide) ?_
      intro h10 le10 fz
      have hG10 := hG9.mono le10
      (repeat (first | refine G.qkp ?_ | refine G.withT ?_ | refine Gs.withb ?_))
      refine Gs.callv0 (check_ok g0 ((some ⟨b2, 0, none⟩, 2, 2), (some ⟨b4, 0, none⟩, 2, 2)) (0, 0, 0) 0 (some ⟨zb, 0, none⟩, 1, 1) [(0, 0, 0)] h10 hG10 hS fz (by decide)) ?_
      rw [show ckB g0 (0, 0, 0) 0 [(0, 0, 0)] = false by decide]
      (repeat (first | refine G.qkp ?_ | refine Gs.qkb ?_ | refine G.gdtt ?_))
      refine Gs.callv0 (valid_ok g0 ((some ⟨b2, 0, none⟩, 2, 2), (some ⟨b4, 0, none⟩, 2, 2)) h10 hG10 hS) ?_
      rw [g0_gv]
      have hS1 : GS ⟨[[1]], [[]]⟩ := ⟨by decide, by decide, by simp, by simp⟩
      have hv1 : gvB ⟨[[1]], [[]]⟩ = false := by decide
      refine G.or2 ?_ ?_
      · (repeat (refine G.gdtt ?_))
        refine Gs.buildSlice (out := [I 1]) (by decide) ?_
        intro c1
        refine Gs.freezeE (enc := eInt) (v := slv (some ⟨c1, 0, none⟩, 1, 1)) (l := [1]) (by decide) ?_
        intro h11 le11 e1
        refine G.or2 ?_ ?_
        · refine Gs.buildSlice (out := [.slice (some ⟨c1, 0, none⟩) 1 1]) (by decide) ?_
          intro c2
          refine Gs.freezeE (enc := eSlH) (v := slv (some ⟨c2, 0, none⟩, 1, 1)) (l := [(some ⟨c1, 0, none⟩, 1, 1)]) (by decide) ?_
          intro h12 le12 e2
          refine Gs.buildSlice (out := [.slice none 0 0]) (by decide) ?_
          intro c3
          refine Gs.freezeE (enc := eSlH) (v := slv (some ⟨c3, 0, none⟩, 1, 1)) (l := [(none, 0, 0)]) (by decide) ?_
          intro h13 le13 e3
          (repeat (refine G.qkp ?_))
          refine Gs.callv0 (valid_ok ⟨[[1]], [[]]⟩ ((some ⟨c2, 0, none⟩, 1, 1), (some ⟨c3, 0, none⟩, 1, 1)) h13 ⟨one_rd (e2.mono le13) (e1.mono (le12.trans le13)), one_rd e3 (RdE.nil _ _ _)⟩ hS1) ?_
          rw [hv1]
          (repeat (refine G.qkp ?_))
          exact Gs.ret rfl
        · refine Gs.buildSlice (out := [.slice none 0 0]) (by decide) ?_
          intro c3
          refine Gs.freezeE (enc := eSlH) (v := slv (some ⟨c3, 0, none⟩, 1, 1)) (l := [(none, 0, 0)]) (by decide) ?_
          intro h12 le12 e3
          refine Gs.buildSlice (out := [.slice (some ⟨c1, 0, none⟩) 1 1]) (by decide) ?_
          intro c2
          refine Gs.freezeE (enc := eSlH) (v := slv (some ⟨c2, 0, none⟩, 1, 1)) (l := [(some ⟨c1, 0, none⟩, 1, 1)]) (by decide) ?_
          intro h13 le13 e2
          (repeat (refine G.qkp ?_))
          refine Gs.callv0 (valid_ok ⟨[[1]], [[]]⟩ ((some ⟨c2, 0, none⟩, 1, 1), (some ⟨c3, 0, none⟩, 1, 1)) h13 ⟨one_rd e2 (e1.mono (le12.trans le13)), one_rd (e3.mono le13) (RdE.nil _ _ _)⟩ hS1) ?_
          rw [hv1]
          (repeat (refine G.qkp ?_))
          exact Gs.ret rfl
      · (repeat (refine G.gdtt ?_))
        refine Gs.buildSlice (out := [.slice none 0 0]) (by decide) ?_
        intro c3
        refine Gs.freezeE (enc := eSlH) (v := slv (some ⟨c3, 0, none⟩, 1, 1)) (l := [(none, 0, 0)]) (by decide) ?_
        intro h11 le11 e3
        refine Gs.buildSlice (out := [I 1]) (by decide) ?_
        intro c1
        refine Gs.freezeE (enc := eInt) (v := slv (some ⟨c1, 0, none⟩, 1, 1)) (l := [1]) (by decide) ?_
        intro h12 le12 e1
        refine Gs.buildSlice (out := [.slice (some ⟨c1, 0, none⟩) 1 1]) (by decide) ?_
        intro c2
        refine Gs.freezeE (enc := eSlH) (v := slv (some ⟨c2, 0, none⟩, 1, 1)) (l := [(some ⟨c1, 0, none⟩, 1, 1)]) (by decide) ?_
        intro h13 le13 e2
        (repeat (refine G.qkp ?_))
        refine Gs.callv0 (valid_ok ⟨[[1]], [[]]⟩ ((some ⟨c2, 0, none⟩, 1, 1), (some ⟨c3, 0, none⟩, 1, 1)) h13 ⟨one_rd e2 (e1.mono le13), one_rd (e3.mono (le12.trans le13)) (RdE.nil _ _ _)⟩ hS1) ?_
        rw [hv1]
        (repeat (refine G.qkp ?_))
        exact Gs.ret rfl
    · intro k9 hk9
      (repeat (refine G.step ?_))
      refine Gs.callv0 (solveL_ok ⟨[], []⟩ ((none, 0, 0), (none, 0, 0)) (0, 0, 0) h4 (GrR.emp h4) GS.emp) ?_
      rw [sv5]
      (repeat (first | refine G.step ?_ | refine G.gdtt ?_))
      refine Gs.callv0 (solveL_ok g0 ((some ⟨b2, 0, none⟩, 2, 2), (some ⟨b4, 0, none⟩, 2, 2)) (2, 0, 0) h4 hG hS) ?_
      rw [sv6]
      (repeat (first | refine G.step ?_ | refine G.gdtt ?_))
      refine Gs.call0 (boundsL_ok g0 ((some ⟨b2, 0, none⟩, 2, 2), (some ⟨b4, 0, none⟩, 2, 2)) (-1) h4 hG hS (by omega)) ?_
      rintro _ h5 le5 ⟨b, hb, rfl⟩
      obtain rfl := hb.uniq bd_m
      have hG5 := hG.mono le5
      (repeat (first | refine G.step ?_ | refine G.gdtt ?_))
      refine Gs.call0 (proveL_ok g0 ((some ⟨b2, 0, none⟩, 2, 2), (some ⟨b4, 0, none⟩, 2, 2)) (0, 0, 0) 2 h5 hG5 hS) ?_
      rintro _ h6 le6 ⟨q, l, e, hp, hr, rfl⟩
      obtain ⟨rfl, rfl⟩ := hp.uniq pv_2
      have hG6 := hG5.mono le6
      (repeat (first | refine G.step ?_ | refine G.gdtt ?_))
      refine Gs.call0 (proveL_ok g0 ((some ⟨b2, 0, none⟩, 2, 2), (some ⟨b4, 0, none⟩, 2, 2)) (0, 0, 0) 0 h6 hG6 hS) ?_
      rintro _ h7 le7 ⟨q', l', e', hp', hr', rfl⟩
      obtain ⟨rfl, rfl⟩ := hp'.uniq pv_3
      (repeat (refine G.step ?_))
      exact hk9 _ _ ⟨rfl, h7, le5.trans (le6.trans le7), rfl⟩
  · intro k8 hk8
    (repeat (refine G.step ?_))
    refine Gs.callv0 (solveL_ok g0 ((some ⟨b2, 0, none⟩, 2, 2), (some ⟨b4, 0, none⟩, 2, 2)) (0, 0, 0) h4 hG hS) ?_
    rw [sv1]
    (repeat (first | refine G.step ?_ | refine G.gdtt ?_))
    refine Gs.callv0 (solveL_ok g0 ((some ⟨b2, 0, none⟩, 2, 2), (some ⟨b4, 0, none⟩, 2, 2)) (0, 1, 0) h4 hG hS) ?_
    rw [sv2]
    (repeat (first | refine G.step ?_ | refine G.gdtt ?_))
    refine Gs.callv0 (solveL_ok g0 ((some ⟨b2, 0, none⟩, 2, 2), (some ⟨b4, 0, none⟩, 2, 2)) (0, -1, 0) h4 hG hS) ?_
    rw [sv3]
    (repeat (first | refine G.step ?_ | refine G.gdtt ?_))
    refine Gs.callv0 (solveL_ok g0 ((some ⟨b2, 0, none⟩, 2, 2), (some ⟨b4, 0, none⟩, 2, 2)) (1, 5, 1) h4 hG hS) ?_
    rw [sv4]
    (repeat (refine G.step ?_))
    exact hk8 _ rfl
end Go.Proofs.Ytnepdmnkhjpnhaa
end

