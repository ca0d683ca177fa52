/-
  Lemmas for the proof of the statement of this claim: a part of the road, no statement of its own. Conditions: those that each lemma names.
-/
import Derived.Test.YtgdochemlbjnlaaGreatVc
import Derived.Test.YtgdochemlbjnlaaGreatVm
import Derived.Test.YtgdochemlbjnlaaGreatVd
section
/-
  Values: sizes, the order, canonical forms, negatives, sums.
-/
set_option linter.unusedVariables false
set_option linter.unusedSimpArgs false
set_option linter.unusedSectionVars false
set_option maxHeartbeats 8000000
namespace Go.Proofs.YtgdochemlbjnlaaGreat
open Go Go.Sk Go.Va Go.RowKit
variable {M : Go.Sk.Mode}
theorem szs_take (l : List Fm) (i : Nat) (hi : i < l.length) : szs (l.take (i + 1)) = szs (l.take i) + sz l[i] := by
  rw [List.take_succ_eq_append_getElem hi, szs_app]; simp [szs]
theorem szs_take_le (l : List Fm) (i : Nat) : szs (l.take i) ≤ szs l := szs_sublist (List.take_sublist i l)
theorem rsize_ok : ∀ (n : Nat) (f : Fm), sz f ≤ n → n ≤ 10000000 → ∀ (h : Hp) (x : FmH), FmR h x f → Ct Tryz.prog 7 [vF x] h (fun _ v => v = I (sz f)) := by
  intro n
  induction n with
  | zero => intro f hf; have := sz_pos f; omega
  | succ n ih =>
    intro f hf hn h x hx
    have hl := lenL f
    have hr := lenR f
    have hsz := sz_eq f
    refine ct7 ?_
    intro w0
    unfold s7
    (repeat (refine Gs.box ?_; intro _))
    rename_i fb
    refine Gs.lp (β := Nat) (fun i => (I (1 + szs (f.L.take i) : Nat), I i)) (fun _ => h) (fun _ => [.blk fb [slv x.1, slv x.2] 28]) (fun i => i ≤ f.L.length) (fun i => f.L.length - i) 0 (by simp [szs]) (Nat.zero_le _) (fun _ s => s) ?_
    rintro i hi cont hc
    have htl := szs_take_le f.L i
    refine G.jk ?_; intro _
    (repeat (refine G.step ?_))
    refine Gs.lenF hx.l (by omega) ?_
    (repeat (refine G.step ?_))
    refine G.ifd ?_ ?_ <;> intro hlt
    · have hlt' : i < f.L.length := by omega
      have hst := szs_take f.L i hlt'
      have hmem : f.L[i] ∈ f.L := List.getElem_mem hlt'
      have htl2 := szs_take_le f.L (i + 1)
      (repeat (refine G.step ?_))
      refine Gs.indexF hx.l hlt' ?_
      intro b o y hp hy
      refine Gs.loadE hp ?_
      refine Gs.callv0 (ih _ (by have := sz_L hmem; omega) (by omega) h y hy) ?_
      (repeat (refine G.add (by omega) ?_))
      exact Gs.go (hc (i + 1) (by omega) (by omega)) (by rw [hst]; simp; omega)
    · have hi' : i = f.L.length := by omega
      subst hi'
      rw [List.take_length] at *
      clear hc cont
      refine Gs.lp (β := Nat) (fun i => (I (1 + szs f.L + szs (f.R.take i) : Nat), I i)) (fun _ => h) (fun _ => [.blk fb [slv x.1, slv x.2] 28]) (fun i => i ≤ f.R.length) (fun i => f.R.length - i) 0 (by simp [szs]) (Nat.zero_le _) (fun _ s => s) ?_
      rintro i hi cont hc
      have htl := szs_take_le f.R i
      refine G.jk ?_; intro _
      (repeat (refine G.step ?_))
      refine Gs.lenF hx.r (by omega) ?_
      (repeat (refine G.step ?_))
      refine G.ifd ?_ ?_ <;> intro hlt
      · have hlt' : i < f.R.length := by omega
        have hst := szs_take f.R i hlt'
        have hmem : f.R[i] ∈ f.R := List.getElem_mem hlt'
        have htl2 := szs_take_le f.R (i + 1)
        (repeat (refine G.step ?_))
        refine Gs.indexF hx.r hlt' ?_
        intro b o y hp hy
        refine Gs.loadE hp ?_
        refine Gs.callv0 (ih _ (by have := sz_R hmem; omega) (by omega) h y hy) ?_
        (repeat (refine G.add (by omega) ?_))
        exact Gs.go (hc (i + 1) (by omega) (by omega)) (by rw [hst]; simp; omega)
      · have hi' : i = f.R.length := by omega
        subst hi'
        rw [List.take_length]
        exact Gs.ret (by rw [hsz])
theorem size_ok : ∀ (n : Nat) (f : Fm), sz f ≤ n → n ≤ 10000000 → ∀ (h : Hp) (x : FmH), FmR h x f → Ct Tryz.prog 6 [vF x] h (fun _ v => v = I (sz f)) := by
  intro n
  induction n with
  | zero => intro f hf; have := sz_pos f; omega
  | succ n ih =>
    intro f hf hn h x hx
    have hl := lenL f
    have hr := lenR f
    have hsz := sz_eq f
    refine ct6 ?_
    intro w0
    unfold s6
    (repeat (first | refine G.step ?_ | refine G.buildA (by rfl) ?_ | (refine Gs.box ?_; intro _)))
    rename_i fb
    have inner : ∀ (l : List Fm) (v : SlH) (L : List Itm) (s0 : Nat), RdF h (slv v) eFH 2 FmR l → (∀ g ∈ l, sz g < sz f) → s0 + szs l ≤ 10000000 → ∀ (c7 : Value × Value → WP) (j : Int), -10 ≤ j ∧ j ≤ 10 → (Gs w0 h h L (c7 (I (s0 + szs l : Nat), I (j + 1)))) →
        Gs w0 h h L (Lp (α := Value × Value) (fun c11 s11 => Jk fun _ =>
     Do Tryz.prog (V (binOp .lss 3 s11.2 (I l.length))) fun t12_19 =>
     If t12_19 (
      Do Tryz.prog (V (Instr.indexAt 26 (slv v) s11.2)) fun t13_20 =>
      Do Tryz.prog (V (Instr.loadAt 28 t13_20)) fun t14_21 =>
      Do Tryz.prog (V (Instr.alloc 28 true (.tuple #[]))) fun x15 =>
      Do Tryz.prog (U (Instr.storeAt 28 x15 t14_21)) fun t16_x =>
      Do Tryz.prog (V (Instr.loadAt 28 x15)) fun t17_23 =>
      Do Tryz.prog (vCall (.func (.func 6) #[] ⟨[]⟩) [t17_23]) fun t18_24 =>
      Do Tryz.prog (V (binOp .add 3 s11.1 t18_24)) fun t19_25 =>
      Do Tryz.prog (V (binOp .add 3 s11.2 (.int .i64 1))) fun t20_26 =>
      c11 (t19_25, t20_26)
     ) (
      Do Tryz.prog (V (binOp .add 3 (I j) (.int .i64 1))) fun t21_27 =>
      c7 (s11.1, t21_27)
     )) (I s0, .int .i64 0)) := by
      intro l v L s0 hv hsm hb c7 j hj hk
      have hll := len_le_szs l
      refine Gs.lp (β := Nat) (fun i => (I (s0 + szs (l.take i) : Nat), I i)) (fun _ => h) (fun _ => L) (fun i => i ≤ l.length) (fun i => l.length - i) 0 (by simp [szs]) (Nat.zero_le _) (fun _ s => s) ?_
      rintro i hi cont hc
      have htl := szs_take_le l i
      refine G.jk ?_; intro _
      (repeat (refine G.step ?_))
      refine G.ifd ?_ ?_ <;> intro hlt
      · have hlt' : i < l.length := by omega
        have hst := szs_take l i hlt'
        have hmem : l[i] ∈ l := List.getElem_mem hlt'
        have htl2 := szs_take_le l (i + 1)
        refine Gs.indexF hv hlt' ?_
        intro b o y hp hy
        refine Gs.loadE hp ?_
        (repeat (first | refine G.step ?_ | (refine Gs.alloc ?_; intro _) | refine Gs.store ?_))
        refine Gs.callv0 (ih _ (by have := hsm _ hmem; omega) (by omega) h y hy) ?_
        (repeat (refine G.add (by omega) ?_))
        exact Gs.goS (hc (i + 1) (by omega) (by omega)) (by rw [hst]; simp; omega)
      · have hi' : i = l.length := by omega
        subst hi'
        rw [List.take_length]
        (repeat (refine G.add (by omega) ?_))
        exact hk
    refine Gs.lp (β := Nat) (fun j => (I ((if j = 0 then 1 else if j = 1 then 1 + szs f.L else sz f : Nat) : Nat), I j)) (fun _ => h) (fun _ => [.blk fb [slv x.1, slv x.2] 28]) (fun j => j ≤ 2) (fun j => 2 - j) 0 rfl (by decide) (fun _ s => s) ?_
    rintro j hj cont hc
    refine G.jk ?_; intro _
    (repeat (refine G.step ?_))
    refine G.ifd ?_ ?_ <;> intro hlt
    · have hj2 : j = 0 ∨ j = 1 := by omega
      rcases hj2 with rfl | rfl
      · refine G.indexV1 (v := slv x.1) (by decide) rfl ?_
        refine Gs.lenF hx.l (by omega) ?_
        refine inner f.L x.1 _ 1 hx.l (fun g hg => sz_L hg) (by omega) cont 0 (by decide) ?_
        exact Gs.go (hc 1 (by omega) (by omega)) rfl
      · refine G.indexV1 (v := slv x.2) (by decide) rfl ?_
        refine Gs.lenF hx.r (by omega) ?_
        refine inner f.R x.2 _ (1 + szs f.L) hx.r (fun g hg => sz_R hg) (by omega) cont 1 (by decide) ?_
        exact Gs.go (hc 2 (by omega) (by omega)) (by rw [← hsz]; rfl)
    · have hj2 : j = 2 := by omega
      subst hj2
      exact Gs.ret rfl
theorem leq_ok (f g : Fm) (x y : FmH) (h : Hp) (hx : FmR h x f) (hy : FmR h y g) (hn : sz f + sz g ≤ 100000) : Ct Tryz.prog 8 [vF x, vF y] h (fun _ v => v = .bool (leq f g)) := by
  refine ct8 ?_
  intro w0
  unfold s8
  (repeat (refine Gs.box ?_; intro _))
  refine open_ok ?_
  intro k h1 le1
  (repeat (first | refine Gw.dr ?_ | refine Gw.qkb ?_))
  refine enter_ok w0 h k (sz f) f (Nat.le_refl _) (by omega) h1 _ _ x (hx.mono le1) ?_
  intro b1 h2 le2 hb1
  (repeat (refine Gw.withb ?_))
  refine enter_ok w0 h k (sz g) g (Nat.le_refl _) (by omega) h2 _ _ y (hy.mono (le1.trans le2)) ?_
  intro b2 h3 le3 hb2
  skip
  refine most_ok w0 h k _ f g (Nat.le_refl _) hn h3 _ _ b1 b2 (hb1.mono le3) hb2 ?_
  exact Gw.ret fun h' _ => rfl
theorem canon_okC (f : Fm) (x : FmH) (h : Hp) (hx : FmR h x f) (hn : sz f ≤ 20000) : Ct Tryz.prog 15 [vF x] h (fun h' v => ∃ y : FmH, v = vF y ∧ FmR h' y (canon f)) := by
  refine ct15 ?_
  intro w0
  unfold s15
  (repeat (first | (refine Gs.box ?_; intro _) | (refine Gs.alloc ?_; intro _)))
  refine open_ok ?_
  intro k h1 le1
  (repeat (refine G.step ?_))
  refine enter_ok w0 h k (sz f) f (Nat.le_refl _) (by omega) h1 _ _ x (hx.mono le1) ?_
  intro b1 h2 le2 hb1
  skip
  refine reduce_ok w0 h k (sz f) f (Nat.le_refl _) hn h2 _ _ b1 hb1 ?_
  intro c h3 le3 hc
  refine Gw.drop ?_
  intro h4 le4
  have := (canon_ok f).2.2
  refine Gs.call0 (form_ok (sz (canon f)) (canon f) (Nat.le_refl _) (by omega) h4 c (hc.mono le4)) ?_
  rintro _ h5 le5 ⟨y, rfl, hy⟩
  (repeat (first | refine Gs.store ?_ | refine G.retc ?_))
  exact Gs.ret ⟨y, rfl, hy⟩
theorem winner_ok (f : Fm) (x : FmH) (i : Int) (h : Hp) (hx : FmR h x f) (hn : sz f ≤ 20000) : Ct Tryz.prog 23 [vF x, I i] h (fun _ v => v = I (if i = 0 then (if leq f Va.zero then 1 else 0) else (if leq Va.zero f then 0 else 1))) := by
  refine ct23 ?_
  intro w0
  unfold s23
  (repeat (refine Gs.box ?_; intro _))
  refine open_ok ?_
  intro k h1 le1
  (repeat (refine G.step ?_))
  refine enter_ok w0 h k (sz f) f (Nat.le_refl _) (by omega) h1 _ _ x (hx.mono le1) ?_
  intro b1 h2 le2 hb1
  have hz : sz Va.zero = 1 := rfl
  refine make_ok (none, 0, 0) (none, 0, 0) [] [] (RdF.nil _ _ _ _) (RdF.nil _ _ _ _) (by simp [szs]) ?_
  intro b2 h3 le3 hb2
  have hb1 := hb1.mono le3
  refine G.jnP (fun j => j = .bool (if i = 0 then !leq f Va.zero else leq Va.zero f)) ?_ ?_
  · rintro _ rfl
    refine G.jk ?_; intro _
    refine G.ifb ?_ ?_ <;> intro c
    · refine Gw.ret fun h' _ => ?_
      congr 1
      split <;> rename_i hi
      · rw [if_pos hi] at c; rw [if_neg (by simpa using c)]
      · rw [if_neg hi] at c; rw [if_pos c]
    · refine Gw.ret fun h' _ => ?_
      congr 1
      split <;> rename_i hi
      · rw [if_pos hi] at c; rw [if_pos (by simpa using c)]
      · rw [if_neg hi] at c; rw [if_neg (by rw [c]; simp)]
  · intro K2 hK2
    refine G.step ?_
    refine G.gddt ?_ ?_ <;> intro c1
    · refine most_ok w0 h k _ f Va.zero (Nat.le_refl _) (by omega) h3 _ _ b1 b2 hb1 hb2 ?_
      refine G.step ?_
      rw [if_pos c1] at hK2
      refine G.gdbf ?_ ?_ <;> intro c2
      · exact hK2 _ (by rw [c2])
      · refine G.step ?_
        refine G.gddt ?_ ?_ <;> intro c3
        · exact absurd c1 c3
        · exact hK2 _ (by rw [c2])
    · rw [if_neg c1] at hK2
      refine G.step ?_
      refine G.gddt ?_ ?_ <;> intro c3
      · refine most_ok w0 h k _ Va.zero f (Nat.le_refl _) (by omega) h3 _ _ b2 b1 hb2 hb1 ?_
        exact hK2 _ rfl
      · exact absurd c1 (by simpa using c3)
end Go.Proofs.YtgdochemlbjnlaaGreat
end

section
/-
  Values: negatives, sums, texts of the reference, who wins by playing all lines.
-/
set_option linter.unusedVariables false
set_option linter.unusedSimpArgs false
set_option linter.unusedSectionVars false
set_option maxHeartbeats 8000000
namespace Go.Proofs.YtgdochemlbjnlaaGreat
open Go Go.Sk Go.Va Go.RowKit
variable {M : Go.Sk.Mode}
def NegOk [M : Go.Sk.Mode] (FN : FuncId) (f : Fm) : Prop := ∀ (h : Hp) (x : FmH), FmR h x f → Ct Tryz.prog FN [vF x] h (fun h' v => ∃ y : FmH, v = vF y ∧ FmR h' y (neg f))
theorem negs_ok (l : List Fm) (v : SlH) (h : Hp) (hv : RdF h (slv v) eFH 2 FmR l) (hn : l.length ≤ 100000) (hneg : ∀ f ∈ l, NegOk (M := M) 13 f) : Ct Tryz.prog 30 [slv v] h (fun h' r => ∃ q : SlH, r = slv q ∧ RdF h' (slv q) eFH 2 FmR (l.map neg)) := by
  refine ct30 ?_
  intro w0
  unfold s30
  refine Gs.lenF hv (by omega) ?_
  refine Gs.nilsl 28 2 ?_
  refine Gs.lp (β := Nat × SlH × Hp × List FmH) (fun u => (slv u.2.1, I u.1)) (fun u => u.2.2.1) (fun u => [.sl (slv u.2.1) 28 2 (fl eFH u.2.2.2)]) (fun u => u.1 ≤ l.length ∧ Hle h u.2.2.1 ∧ All2 (FmR u.2.2.1) u.2.2.2 ((l.take u.1).map neg)) (fun u => l.length - u.1) (0, (none, 0, 0), h, []) rfl ⟨Nat.zero_le _, Hle.refl h, by simp; exact .nil⟩ (fun _ s => s) ?_
  rintro ⟨i, q, hh, xs⟩ ⟨hi, hle, hxs⟩ cont hc
  dsimp only at hi hle hxs hc ⊢
  have hlen : xs.length = i := by rw [hxs.len]; simp; omega
  (repeat (first | refine G.step ?_ | (refine G.jk ?_; intro _)))
  refine G.ifd ?_ ?_ <;> intro hlt
  · have hlt' : i < l.length := by omega
    have htake := List.take_succ_eq_append_getElem hlt'
    refine Gs.indexF (hv.mono hle) hlt' ?_
    intro b1 o1 x1 hpx hx1
    refine Gs.loadE hpx ?_
    have hmem : l[i] ∈ l := List.getElem_mem hlt'
    (repeat (first | refine G.step ?_ | (refine Gs.alloc ?_; intro _) | refine Gs.store ?_))
    refine Gs.call0 (hneg _ hmem hh x1 hx1) ?_
    rintro _ h2 le2 ⟨y, rfl, hy⟩
    refine Gs.push (enc := eFH) (l := xs) (a := y) (by decide) (by decide) (by omega) (by omega) ?_
    intro s' v'
    refine Gs.slH (v := v') ?_
    rintro q2 rfl
    (repeat (refine G.add (by omega) ?_))
    refine Gs.goS (hc (i + 1, q2, h2, xs ++ [y]) ⟨by dsimp only; omega, hle.trans le2, ?_⟩ (by dsimp only; omega)) (by simp)
    dsimp only
    rw [htake, List.map_append]
    exact (hxs.monoR le2).snoc hy
  · have hi' : i = l.length := by omega
    subst hi'
    rw [List.take_length] at hxs
    refine Gs.freezeE (enc := eFH) (v := slv q) (by decide) ?_
    intro h1 le1 hfr
    exact Gs.ret ⟨q, rfl, xs, hfr, hxs.monoR le1⟩
theorem neg_ok : ∀ (n : Nat) (f : Fm), sz f ≤ n → n ≤ 100000 → NegOk (M := M) 13 f := by
  intro n
  induction n with
  | zero => intro f hf; have := sz_pos f; omega
  | succ n ih =>
    intro f hf hn h x hx
    have hl := lenL f
    have hr := lenR f
    refine ct13 ?_
    intro w0
    unfold s13
    (repeat (first | (refine Gs.box ?_; intro _) | (refine Gs.alloc ?_; intro _) | refine Gs.dr ?_ | refine G.qkp ?_ | refine Gs.qkb ?_))
    refine Gs.call0 (negs_ok f.R x.2 h hx.r (by omega) fun g hg => ih g (by have := sz_R hg; omega) (by omega)) ?_
    rintro _ h1 le1 ⟨q1, rfl, hq1⟩
    (repeat (first | refine G.withT ?_ | refine Gs.withb ?_))
    refine Gs.call0 (negs_ok f.L x.1 h1 (hx.l.mono le1) (by omega) fun g hg => ih g (by have := sz_L hg; omega) (by omega)) ?_
    rintro _ h2 le2 ⟨q2, rfl, hq2⟩
    (repeat (first | refine Gs.store ?_ | refine G.retc ?_ | refine G.qkp ?_))
    refine Gs.ret ⟨(q1, q2), rfl, FmR_iff.2 ⟨?_, ?_⟩⟩
    · rw [neg_L]; exact hq1.mono le2
    · rw [neg_R]; exact hq2
def AddOk [M : Go.Sk.Mode] (FN : FuncId) (f g : Fm) : Prop := ∀ (h : Hp) (x y : FmH), FmR h x f → FmR h y g → Ct Tryz.prog FN [vF x, vF y] h (fun h' v => ∃ z : FmH, v = vF z ∧ FmR h' z (add f g))
theorem add_ok : ∀ (n : Nat) (f g : Fm), sz f + sz g ≤ n → n ≤ 100000 → AddOk (M := M) 17 f g := by
  intro n
  induction n with
  | zero => intro f g hf; have := sz_pos f; omega
  | succ n ih =>
    intro f g hf hn h x y hx hy
    have hl := lenL f
    have hr := lenR f
    have hl2 := lenL g
    have hr2 := lenR g
    refine ct17 ?_
    intro w0
    unfold s17
    (repeat (first | refine G.step ?_ | (refine Gs.box ?_; intro _) | (refine Gs.alloc ?_; intro _)))
    rename_i ab bb rb fb
    refine Gs.lenF hx.l (by omega) ?_
    refine Gs.nilsl 28 2 ?_
    refine Gs.lp (β := Nat × SlH × Hp × List FmH) (fun u => I u.1) (fun u => u.2.2.1) (fun u => [.sl (slv u.2.1) 28 2 (fl eFH u.2.2.2), .blk fb [slv u.2.1, .slice none 0 0] 28, .blk rb [.slice none 0 0, .slice none 0 0] 28, .blk bb [slv y.1, slv y.2] 28, .blk ab [slv x.1, slv x.2] 28]) (fun u => u.1 ≤ f.L.length ∧ Hle h u.2.2.1 ∧ All2 (FmR u.2.2.1) u.2.2.2 ([] ++ (f.L.take u.1).map (add · g))) (fun u => f.L.length - u.1) (0, (none, 0, 0), h, []) rfl ⟨Nat.zero_le _, Hle.refl h, by simp; exact .nil⟩ (fun _ s => s) ?_
    rintro ⟨i, q0, hh0, xs0⟩ ⟨hi, hle0, hxs0⟩ cont hc
    dsimp only at hi hle0 hxs0 hc ⊢
    have hlen : xs0.length = i := by rw [hxs0.len]; simp; omega
    (repeat (first | refine G.step ?_ | (refine G.jk ?_; intro _)))
    refine G.ifd ?_ ?_ <;> intro hlt
    · have hlt' : i < f.L.length := by omega
      have htake := List.take_succ_eq_append_getElem hlt'
      refine Gs.indexF (hx.l.mono hle0) hlt' ?_
      intro b1 o1 x1 hpx hx1
      refine Gs.loadE hpx ?_
      have hmem : f.L[i] ∈ f.L := List.getElem_mem hlt'
      (repeat (first | (refine Gs.alloc ?_; intro _) | refine Gs.store ?_ | refine Gs.dr ?_ | refine G.qkp ?_ | refine Gs.qkb ?_))
      refine Gs.call0 (ih _ g (by have := sz_L hmem; omega) (by omega) hh0 x1 y hx1 (hy.mono hle0)) ?_
      rintro _ h2 le2 ⟨z, rfl, hz⟩
      (repeat (first | refine G.withT ?_ | refine Gs.withb ?_))
      refine Gs.buildSlice (out := eFH z) (by decide) ?_
      intro eb
      (repeat (first | refine G.withT ?_ | refine Gs.withb ?_))
      refine Gs.appendO (enc := eFH) (l := xs0) (m := [z]) (e2 := 28) (by simp [fl]) (by simp; omega) (by simp; omega) ?_
      intro v'
      refine Gs.slH (v := v') ?_
      rintro q2 rfl
      (repeat (first | refine G.add (by omega) ?_ | refine Gs.store ?_ | refine G.qkp ?_))
      refine Gs.goS (hc (i + 1, q2, h2, xs0 ++ [z]) ⟨by dsimp only; omega, hle0.trans le2, ?_⟩ (by dsimp only; omega)) (by simp)
      dsimp only
      rw [htake, List.map_append, ← List.append_assoc]
      exact (hxs0.monoR le2).snoc hz
    · have hi' : i = f.L.length := by omega
      subst hi'
      rw [List.take_length] at hxs0
      clear hc cont hlt hi hlen
      (repeat (refine G.step ?_))
      refine Gs.lenF (hy.l.mono hle0) (by omega) ?_
      rw [List.nil_append] at hxs0
      have hle := hle0
      have hxs := hxs0
      generalize hh0 = hh at *
      generalize xs0 = xs at *
      generalize q0 = q at *
      clear hle0 hxs0
      refine Gs.lp (β := Nat × SlH × Hp × List FmH) (fun u => I u.1) (fun u => u.2.2.1) (fun u => [.sl (slv u.2.1) 28 2 (fl eFH u.2.2.2), .blk fb [slv u.2.1, .slice none 0 0] 28, .blk rb [.slice none 0 0, .slice none 0 0] 28, .blk bb [slv y.1, slv y.2] 28, .blk ab [slv x.1, slv x.2] 28]) (fun u => u.1 ≤ g.L.length ∧ Hle hh u.2.2.1 ∧ All2 (FmR u.2.2.1) u.2.2.2 ((f.L.map (add · g)) ++ (g.L.take u.1).map (add f ·))) (fun u => g.L.length - u.1) (0, q, hh, xs) rfl ⟨Nat.zero_le _, Hle.refl hh, by simpa using hxs⟩ (fun _ s => s) ?_
      rintro ⟨i, q1, hh1, xs1⟩ ⟨hi, hle1, hxs1⟩ cont hc
      dsimp only at hi hle1 hxs1 hc ⊢
      have hlen : xs1.length = f.L.length + i := by rw [hxs1.len]; simp; omega
      (repeat (first | refine G.step ?_ | (refine G.jk ?_; intro _)))
      refine G.ifd ?_ ?_ <;> intro hlt
      · have hlt' : i < g.L.length := by omega
        have htake := List.take_succ_eq_append_getElem hlt'
        refine Gs.indexF (hy.l.mono (hle.trans hle1)) hlt' ?_
        intro b1 o1 x1 hpx hx1
        refine Gs.loadE hpx ?_
        have hmem : g.L[i] ∈ g.L := List.getElem_mem hlt'
        (repeat (first | (refine Gs.alloc ?_; intro _) | refine Gs.store ?_ | refine Gs.dr ?_ | refine G.qkp ?_ | refine Gs.qkb ?_))
        refine Gs.call0 (ih f _ (by have := sz_L hmem; omega) (by omega) hh1 x x1 (hx.mono (hle.trans hle1)) hx1) ?_
        rintro _ h2 le2 ⟨z, rfl, hz⟩
        (repeat (first | refine G.withT ?_ | refine Gs.withb ?_))
        refine Gs.buildSlice (out := eFH z) (by decide) ?_
        intro eb
        (repeat (first | refine G.withT ?_ | refine Gs.withb ?_))
        refine Gs.appendO (enc := eFH) (l := xs1) (m := [z]) (e2 := 28) (by simp [fl]) (by simp; omega) (by simp; omega) ?_
        intro v'
        refine Gs.slH (v := v') ?_
        rintro q2 rfl
        (repeat (first | refine G.add (by omega) ?_ | refine Gs.store ?_ | refine G.qkp ?_))
        refine Gs.goS (hc (i + 1, q2, h2, xs1 ++ [z]) ⟨by dsimp only; omega, hle1.trans le2, ?_⟩ (by dsimp only; omega)) (by simp)
        dsimp only
        rw [htake, List.map_append, ← List.append_assoc]
        exact (hxs1.monoR le2).snoc hz
      · have hi' : i = g.L.length := by omega
        subst hi'
        rw [List.take_length] at hxs1
        clear hc cont hlt hi hlen
        refine Gs.freezeE (enc := eFH) (v := slv q1) (by decide) ?_
        intro h1 le1 hfr
        have hL : RdF h1 (slv q1) eFH 2 FmR (add f g).L := ⟨xs1, hfr, by rw [add_L]; exact hxs1.monoR le1⟩
        replace hle1 : Hle h h1 := hle.trans (hle1.trans le1)
        generalize q1 = qL at *
        clear hxs hxs1 hfr
        (repeat (refine G.step ?_))
        refine Gs.lenF (hx.r.mono hle1) (by omega) ?_
        refine Gs.nilsl 28 2 ?_
        refine Gs.lp (β := Nat × SlH × Hp × List FmH) (fun u => I u.1) (fun u => u.2.2.1) (fun u => [.sl (slv u.2.1) 28 2 (fl eFH u.2.2.2), .blk fb [slv qL, slv u.2.1] 28, .blk rb [.slice none 0 0, .slice none 0 0] 28, .blk bb [slv y.1, slv y.2] 28, .blk ab [slv x.1, slv x.2] 28]) (fun u => u.1 ≤ f.R.length ∧ Hle h1 u.2.2.1 ∧ All2 (FmR u.2.2.1) u.2.2.2 ([] ++ (f.R.take u.1).map (add · g))) (fun u => f.R.length - u.1) (0, (none, 0, 0), h1, []) rfl ⟨Nat.zero_le _, Hle.refl h1, by simp; exact .nil⟩ (fun _ s => s) ?_
        rintro ⟨i, q2, hh2, xs2⟩ ⟨hi, hle2, hxs2⟩ cont hc
        dsimp only at hi hle2 hxs2 hc ⊢
        have hlen : xs2.length = i := by rw [hxs2.len]; simp; omega
        (repeat (first | refine G.step ?_ | (refine G.jk ?_; intro _)))
        refine G.ifd ?_ ?_ <;> intro hlt
        · have hlt' : i < f.R.length := by omega
          have htake := List.take_succ_eq_append_getElem hlt'
          refine Gs.indexF (hx.r.mono (hle1.trans hle2)) hlt' ?_
          intro b1 o1 x1 hpx hx1
          refine Gs.loadE hpx ?_
          have hmem : f.R[i] ∈ f.R := List.getElem_mem hlt'
          (repeat (first | (refine Gs.alloc ?_; intro _) | refine Gs.store ?_ | refine Gs.dr ?_ | refine G.qkp ?_ | refine Gs.qkb ?_))
          refine Gs.call0 (ih _ g (by have := sz_R hmem; omega) (by omega) hh2 x1 y hx1 (hy.mono (hle1.trans hle2))) ?_
          rintro _ h2 le2 ⟨z, rfl, hz⟩
          (repeat (first | refine G.withT ?_ | refine Gs.withb ?_))
          refine Gs.buildSlice (out := eFH z) (by decide) ?_
          intro eb
          (repeat (first | refine G.withT ?_ | refine Gs.withb ?_))
          refine Gs.appendO (enc := eFH) (l := xs2) (m := [z]) (e2 := 28) (by simp [fl]) (by simp; omega) (by simp; omega) ?_
          intro v'
          refine Gs.slH (v := v') ?_
          rintro q2 rfl
          (repeat (first | refine G.add (by omega) ?_ | refine Gs.store ?_ | refine G.qkp ?_))
          refine Gs.goS (hc (i + 1, q2, h2, xs2 ++ [z]) ⟨by dsimp only; omega, hle2.trans le2, ?_⟩ (by dsimp only; omega)) (by simp)
          dsimp only
          rw [htake, List.map_append, ← List.append_assoc]
          exact (hxs2.monoR le2).snoc hz
        · have hi' : i = f.R.length := by omega
          subst hi'
          rw [List.take_length] at hxs2
          clear hc cont hlt hi hlen
          (repeat (refine G.step ?_))
          refine Gs.lenF (hy.r.mono (hle1.trans hle2)) (by omega) ?_
          rw [List.nil_append] at hxs2
          have hxs := hxs2
          generalize hh2 = hh at *
          generalize xs2 = xs at *
          generalize q2 = q at *
          clear hxs2
          refine Gs.lp (β := Nat × SlH × Hp × List FmH) (fun u => I u.1) (fun u => u.2.2.1) (fun u => [.sl (slv u.2.1) 28 2 (fl eFH u.2.2.2), .blk fb [slv qL, slv u.2.1] 28, .blk rb [.slice none 0 0, .slice none 0 0] 28, .blk bb [slv y.1, slv y.2] 28, .blk ab [slv x.1, slv x.2] 28]) (fun u => u.1 ≤ g.R.length ∧ Hle hh u.2.2.1 ∧ All2 (FmR u.2.2.1) u.2.2.2 ((f.R.map (add · g)) ++ (g.R.take u.1).map (add f ·))) (fun u => g.R.length - u.1) (0, q, hh, xs) rfl ⟨Nat.zero_le _, Hle.refl hh, by simpa using hxs⟩ (fun _ s => s) ?_
          rintro ⟨i, q3, hh3, xs3⟩ ⟨hi, hle3, hxs3⟩ cont hc
          dsimp only at hi hle3 hxs3 hc ⊢
          have hlen : xs3.length = f.R.length + i := by rw [hxs3.len]; simp; omega
          (repeat (first | refine G.step ?_ | (refine G.jk ?_; intro _)))
          refine G.ifd ?_ ?_ <;> intro hlt
          · have hlt' : i < g.R.length := by omega
            have htake := List.take_succ_eq_append_getElem hlt'
            refine Gs.indexF (hy.r.mono (hle1.trans (hle2.trans hle3))) hlt' ?_
            intro b1 o1 x1 hpx hx1
            refine Gs.loadE hpx ?_
            have hmem : g.R[i] ∈ g.R := List.getElem_mem hlt'
            (repeat (first | (refine Gs.alloc ?_; intro _) | refine Gs.store ?_ | refine Gs.dr ?_ | refine G.qkp ?_ | refine Gs.qkb ?_))
            refine Gs.call0 (ih f _ (by have := sz_R hmem; omega) (by omega) hh3 x x1 (hx.mono (hle1.trans (hle2.trans hle3))) hx1) ?_
            rintro _ h2 le2 ⟨z, rfl, hz⟩
            (repeat (first | refine G.withT ?_ | refine Gs.withb ?_))
            refine Gs.buildSlice (out := eFH z) (by decide) ?_
            intro eb
            (repeat (first | refine G.withT ?_ | refine Gs.withb ?_))
            refine Gs.appendO (enc := eFH) (l := xs3) (m := [z]) (e2 := 28) (by simp [fl]) (by simp; omega) (by simp; omega) ?_
            intro v'
            refine Gs.slH (v := v') ?_
            rintro q2 rfl
            (repeat (first | refine G.add (by omega) ?_ | refine Gs.store ?_ | refine G.qkp ?_))
            refine Gs.goS (hc (i + 1, q2, h2, xs3 ++ [z]) ⟨by dsimp only; omega, hle3.trans le2, ?_⟩ (by dsimp only; omega)) (by simp)
            dsimp only
            rw [htake, List.map_append, ← List.append_assoc]
            exact (hxs3.monoR le2).snoc hz
          · have hi' : i = g.R.length := by omega
            subst hi'
            rw [List.take_length] at hxs3
            clear hc cont hlt hi hlen
            refine Gs.freezeE (enc := eFH) (v := slv q3) (by decide) ?_
            intro h5 le5 hfr5
            (repeat (first | refine G.step ?_ | refine Gs.store ?_ | refine G.retc ?_))
            exact Gs.ret ⟨(qL, q3), rfl, FmR_iff.2 ⟨hL.mono (hle2.trans (hle3.trans le5)), ⟨xs3, hfr5, by rw [add_R]; exact hxs3.monoR le5⟩⟩⟩
theorem form_call {w0 : World} {h0 h : Hp} {L : List Itm} {K : Value → WP} (a b : SlH) (hk : Gs w0 h0 h L (K (vF (a, b)))) : Gs w0 h0 h L (Do Tryz.prog (vCall (.func (.func 25) #[] ⟨[]⟩) [slv a, slv b]) K) := by
  refine in25 ?_
  unfold s25
  (repeat (first | refine G.step ?_ | (refine Gs.alloc ?_; intro _) | refine Gs.store ?_ | refine G.retc ?_))
  exact Gs.sel hk
theorem zero_ok (f : Fm) (x : FmH) (h : Hp) (hx : FmR h x f) (hn : sz f ≤ 100000) : Ct Tryz.prog 56 [vF x] h (fun _ v => v = .bool (decide (f = Va.zero))) := by
  have hl := lenL f
  have hr := lenR f
  refine ct56 ?_
  intro w0
  unfold s56
  (repeat (first | refine G.step ?_ | (refine Gs.box ?_; intro _)))
  refine Gs.lenF hx.l (by omega) ?_
  (repeat (refine G.step ?_))
  refine Gs.lenF hx.r (by omega) ?_
  (repeat (first | refine G.add (by omega) ?_ | refine G.step ?_))
  refine Gs.ret ?_
  congr 1
  rw [decide_eq_decide]
  constructor
  · intro e
    have e1 : f.L = [] := List.eq_nil_of_length_eq_zero (by omega)
    have e2 : f.R = [] := List.eq_nil_of_length_eq_zero (by omega)
    exact Va.ext e1 e2
  · intro e
    subst e
    rfl
def RPrOk [M : Go.Sk.Mode] (f : Fm) : Prop := ∀ (h : Hp) (x : FmH), FmR h x f → Ct Tryz.prog 11 [vF x] h (fun _ v => v = Str (pr f))
theorem rtexts_ok (l : List Fm) (v : SlH) (h : Hp) (hv : RdF h (slv v) eFH 2 FmR l) (hn : szs l ≤ 100000) (hpr : ∀ f ∈ l, RPrOk (M := M) f) : Ct Tryz.prog 29 [slv v] h (fun _ r => r = Str (prs l)) := by
  have hll := len_le_szs l
  refine ct29 ?_
  intro w0
  unfold s29
  refine Gs.lp (β := Nat) (fun i => (Str (prs (l.take i)), I i)) (fun _ => h) (fun _ => []) (fun i => i ≤ l.length) (fun i => l.length - i) 0 (by simp [prs]) (Nat.zero_le _) (fun _ s => s) ?_
  rintro i hi cont hc
  have hlen := prs_len_take l i
  refine G.jk ?_; intro _
  refine Gs.lenF hv (by omega) ?_
  (repeat (refine G.step ?_))
  refine G.ifd ?_ ?_ <;> intro hlt
  · have hlt' : i < l.length := by omega
    have hpt := prs_take l i hlt'
    have hlen1 := pr_len l[i]
    have hmem : l[i] ∈ l := List.getElem_mem hlt'
    have hszi := sz_mem hmem
    refine G.jnP (fun j => j = Str (prs (l.take i) ++ if 0 < i then [44] else [])) ?_ ?_
    · rintro _ rfl
      refine G.jk ?_; intro _
      refine Gs.indexF hv hlt' ?_
      intro b o y hp hy
      refine Gs.loadE hp ?_
      refine Gs.callv0 (hpr _ hmem h y hy) ?_
      refine G.sadd ⟨by simp; split <;> simp <;> omega, by omega⟩ ?_
      (repeat (refine G.add (by omega) ?_))
      refine Gs.go (hc (i + 1) (by omega) (by omega)) ?_
      rw [hpt, List.append_assoc]
      simp
    · intro K hK
      (repeat (refine G.step ?_))
      refine G.ifd ?_ ?_ <;> intro hpos
      · refine G.sadd (b := [44]) ⟨by omega, by simp⟩ ?_
        exact hK _ (by rw [if_pos (by omega)])
      · exact hK _ (by rw [if_neg (by omega), List.append_nil])
  · have hi' : i = l.length := by omega
    subst hi'
    rw [List.take_length]
    exact Gs.ret rfl
theorem rprint_ok : ∀ (n : Nat) (f : Fm), sz f ≤ n → n ≤ 100000 → RPrOk (M := M) f := by
  intro n
  induction n with
  | zero => intro f hf; have := sz_pos f; omega
  | succ n ih =>
    intro f hf hn h x hx
    have hsz := sz_eq f
    have n1 := prs_len f.L
    have n2 := prs_len f.R
    have hpr := pr_eq f
    refine ct11 ?_
    intro w0
    unfold s11
    (repeat (first | (refine Gs.box ?_; intro _) | refine Gs.dr ?_ | refine G.qkp ?_ | refine Gs.qkb ?_))
    refine Gs.callv0 (rtexts_ok f.L x.1 h hx.l (by omega) fun g hg => ih g (by have := sz_L hg; omega) (by omega)) ?_
    (repeat (first | refine G.withT ?_ | refine Gs.withb ?_))
    refine G.qsadd (a := [123]) ⟨by simp, by omega⟩ ?_
    refine G.qsadd (b := [124]) ⟨by simp; omega, by simp⟩ ?_
    refine Gs.callv0 (rtexts_ok f.R x.2 h hx.r (by omega) fun g hg => ih g (by have := sz_R hg; omega) (by omega)) ?_
    (repeat (refine G.withT ?_))
    refine G.qsadd ⟨by simp; omega, by omega⟩ ?_
    refine G.qsadd (b := [125]) ⟨by simp; omega, by simp⟩ ?_
    exact Gs.ret (by rw [hpr]; simp)
theorem same_ok (f g : Fm) (x y : FmH) (h : Hp) (hx : FmR h x f) (hy : FmR h y g) (hn : sz f ≤ 100000 ∧ sz g ≤ 100000) : Ct Tryz.prog 12 [vF x, vF y] h (fun _ v => v = .bool (decide (f = g))) := by
  refine ct12 ?_
  intro w0
  unfold s12
  (repeat (first | (refine Gs.box ?_; intro _) | refine Gs.dr ?_ | refine Gs.qkb ?_))
  refine Gs.callv0 (rprint_ok _ f (Nat.le_refl _) hn.1 h x hx) ?_
  (repeat (refine Gs.withb ?_))
  refine Gs.callv0 (rprint_ok _ g (Nat.le_refl _) hn.2 h y hy) ?_
  (repeat (refine G.qkp ?_))
  exact Gs.ret (by congr 1; rw [decide_eq_decide]; exact pr_inj_iff)
/-- Who begins wins: Left a form that is not at most zero, Right one that is not at least zero. -/
def winF (f : Fm) (i : Int) : Bool := if i = 0 then !leq f Va.zero else !leq Va.zero f
theorem winF_eq (f : Fm) (i : Int) (hi : i = 0 ∨ i = 1) : winF f i = (if i ≠ 0 then f.R else f.L).any fun o => !winF o (1 - i) := by
  unfold winF
  rcases hi with rfl | rfl
  · rw [if_pos rfl, if_neg (by decide), leq_eq f Va.zero]
    show (!(_ && List.all [] _)) = _
    rw [List.all_nil, Bool.and_true, ← not_any, Bool.not_not]
    simp
  · rw [if_neg (by decide), if_pos (by decide), leq_eq Va.zero f]
    show (!(List.all [] _ && _)) = _
    rw [List.all_nil, Bool.true_and, ← not_any, Bool.not_not]
    simp
end Go.Proofs.YtgdochemlbjnlaaGreat
end

section
/-
  Values: the number that a form is; forms that are alike.
-/
set_option linter.unusedVariables false
set_option linter.unusedSimpArgs false
set_option linter.unusedSectionVars false
set_option maxHeartbeats 8000000
namespace Go.Proofs.YtgdochemlbjnlaaGreat
open Go Go.Sk Go.Va Go.RowKit
open Go.Dy (strip Valid val btw)
variable {M : Go.Sk.Mode}
abbrev Fr2 (n e : Int) : Value := .agg #[I n, I e]
/-! ### Alike -/
/-! ### The number of a form -/
instance ixF0 {S : WP} {b : Nat} : Yd Tryz.prog S (V (Instr.indexAt 86 (ptr b 0) (.int .i64 0))) (ptr b 0) := Yd.ixA (sz := 2) (e := 36) (n := 2) ⟨by decide, by decide⟩ rfl
instance ixF1 {S : WP} {b : Nat} : Yd Tryz.prog S (V (Instr.indexAt 86 (ptr b 0) (.int .i64 1))) (ptr b 2) := Yd.ixA (sz := 2) (e := 36) (n := 2) ⟨by decide, by decide⟩ rfl
instance ixF0n {S : WP} {b : Nat} : Yd Tryz.prog S (V (Instr.indexAt 86 (ptr b 0) (.int .i64 ((0 : Nat) : Int)))) (ptr b 0) := ixF0
instance ixF1n {S : WP} {b : Nat} : Yd Tryz.prog S (V (Instr.indexAt 86 (ptr b 0) (.int .i64 ((1 : Nat) : Int)))) (ptr b 2) := ixF1
def eL (l : List Fm) : Int × Int := match l with
  | [x] => ((numF x).1, (numF x).2.1)
  | _ => (0, 0)
/-- What is read is a number. -/
abbrev Num3 (r : Rd3) : Value := .tuple #[Fr2 r.1 r.2.1, .bool r.2.2]
def NumOk [M : Go.Sk.Mode] (f : Fm) : Prop := ∀ (h : Hp) (b : Nat), NdR h b f → Ct Tryz.prog 37 [ptr b 0] h (fun _ v => v = Num3 (numF f))
theorem number_okC : ∀ (n : Nat) (f : Fm), sz f ≤ n → n ≤ 100000 → NV f → NumOk (M := M) f := by
  intro n
  induction n with
  | zero => intro f hf; have := sz_pos f; omega
  | succ n ih =>
    intro f hf hn hnv h b hb
    have hl := lenL f
    have hr := lenR f
    obtain ⟨ql, hp1, hql⟩ := hb.l
    obtain ⟨qr, hp2, hqr⟩ := hb.r
    have hnum := numF_eq f
    have hmanyL : 1 < f.L.length → numF f = (0, 0, false) := fun h => by rw [hnum]; exact numC_many (.inl (by simpa using h))
    have hmanyR : 1 < f.R.length → numF f = (0, 0, false) := fun h => by rw [hnum]; exact numC_many (.inr (by simpa using h))
    have hbadL : ∀ x ∈ f.L, (numF x).2.2 = false → numF f = (0, 0, false) := fun x hx h => by rw [hnum]; exact numC_bad (.inl ⟨_, List.mem_map_of_mem hx, h⟩)
    have hbadR : ∀ x ∈ f.R, (numF x).2.2 = false → numF f = (0, 0, false) := fun x hx h => by rw [hnum]; exact numC_bad (.inr ⟨_, List.mem_map_of_mem hx, h⟩)
    refine ct37 ?_
    intro w0
    unfold s37
    (repeat (first | (refine Gs.alloc ?_; intro _) | refine Gs.dr ?_ | refine G.qkp ?_))
    rename_i rb eb
    refine Gs.qloadP1 hp1 ?_
    (repeat (refine G.qkp ?_))
    refine Gs.qloadP1 hp2 ?_
    refine G.qbuildA (out := [slv ql, slv qr]) (by rfl) ?_
    -- one side: its only option's number goes to its end
    refine Gs.lp (β := Nat) (fun j => I j) (fun _ => h) (fun j => [.blk eb [I (if j = 0 then 0 else (eL f.L).1), I (if j = 0 then 0 else (eL f.L).2), I (if j ≤ 1 then 0 else (eL f.R).1), I (if j ≤ 1 then 0 else (eL f.R).2)] 86, .blk rb [I 0, I 0] 36]) (fun j => j ≤ 2 ∧ (1 ≤ j → f.L.length ≤ 1 ∧ ∀ x ∈ f.L, (numF x).2.2 = true) ∧ (2 ≤ j → f.R.length ≤ 1 ∧ ∀ x ∈ f.R, (numF x).2.2 = true)) (fun j => 2 - j) 0 rfl ⟨by decide, fun h => by omega, fun h => by omega⟩ (fun _ s => s) ?_
    rintro j ⟨hj, hjL, hjR⟩ cont hc
    refine G.jk ?_; intro _
    (repeat (refine G.step ?_))
    refine G.ifd ?_ ?_ <;> intro hlt
    · have hj2 : j = 0 ∨ j = 1 := by omega
      rcases hj2 with rfl | rfl
      · refine G.indexV1 (v := slv ql) (by decide) rfl ?_
        refine Gs.lenF hql (by omega) ?_
        (repeat (refine G.step ?_))
        refine G.ifd ?_ ?_ <;> intro hmany
        · (repeat (first | refine G.step ?_ | refine Gs.store ?_ | refine G.retc ?_))
          exact Gs.ret (by rw [hmanyL (by omega)])
        · have hl1 : f.L.length ≤ 1 := by omega
          refine Gs.lenF hql (by omega) ?_
          refine Gs.lp (β := Nat) (fun k => I k) (fun _ => h) (fun k => [.blk eb [I (if k = 0 then 0 else (eL f.L).1), I (if k = 0 then 0 else (eL f.L).2), I 0, I 0] 86, .blk rb [I 0, I 0] 36]) (fun k => k ≤ f.L.length ∧ (1 ≤ k → ∀ x ∈ f.L, (numF x).2.2 = true)) (fun k => f.L.length - k) 0 rfl ⟨Nat.zero_le _, fun h => by omega⟩ (fun _ s => s) ?_
          rintro k ⟨hk, hok⟩ cont2 hc2
          refine G.jk ?_; intro _
          (repeat (refine G.step ?_))
          refine G.ifd ?_ ?_ <;> intro hlt2
          · have hk0 : k = 0 := by omega
            subst hk0
            have hlen : 0 < f.L.length := by omega
            obtain ⟨x, hx⟩ : ∃ x, f.L = [x] := by
              match hfl : f.L with
              | [] => rw [hfl] at hlen; simp at hlen
              | [x] => exact ⟨x, rfl⟩
              | _ :: _ :: _ => rw [hfl] at hl1; simp at hl1
            refine Gs.indexF hql hlen ?_
            intro b1 o1 x1 hpx hx1
            refine Gs.loadE hpx ?_
            have hmem : x ∈ f.L := by rw [hx]; simp
            have hx1 : NdR h x1 x := by simpa only [hx, List.getElem_cons_zero] using hx1
            refine Gs.callv0 (ih x (by have := sz_L hmem; omega) (by omega) (hnv.l x hmem) h x1 hx1) ?_
            (repeat (first | refine G.step ?_ | (refine Gs.alloc ?_; intro _) | refine Gs.store ?_))
            refine G.ifb ?_ ?_ <;> intro hbad
            · (repeat (first | refine G.step ?_ | refine Gs.store ?_ | refine G.retc ?_))
              exact Gs.ret (by rw [hbadL x hmem (by simpa using hbad)])
            · have hgood : (numF x).2.2 = true := by simpa using hbad
              (repeat (first | refine G.add (by omega) ?_ | refine G.step ?_ | refine Gs.store ?_))
              skip
              have hgo := hc2 1 ⟨by omega, fun _ y hy => by
                rw [hx, List.mem_singleton] at hy
                subst hy
                exact hgood⟩ (by omega)
              have heL : eL f.L = ((numF x).1, (numF x).2.1) := by rw [hx]; rfl
              rw [if_neg (by decide), if_neg (by decide), heL] at hgo
              exact Gs.goS hgo rfl
          · (repeat (refine G.add (by omega) ?_))
            refine Gs.go (t' := I ((1 : Nat) : Int)) ?_ rfl
            have hkl : k = f.L.length := by omega
            have := hc 1 ⟨by decide, fun _ => ⟨hl1, fun x hx => hok (by have := List.length_pos_of_mem hx; omega) x hx⟩, fun h => by omega⟩ (by decide)
            have heq : ∀ v : Int, (v = (eL f.L).1 ∨ v = (eL f.L).2) → (if k = 0 then 0 else v) = v := by
              intro v hv
              by_cases h0 : k = 0
              · rw [if_pos h0]
                have : f.L = [] := List.eq_nil_of_length_eq_zero (by omega)
                rw [this] at hv
                unfold eL at hv
                rcases hv with rfl | rfl <;> rfl
              · rw [if_neg h0]
            rw [heq _ (.inl rfl), heq _ (.inr rfl)]
            exact this
      · refine G.indexV1 (v := slv qr) (by decide) rfl ?_
        refine Gs.lenF hqr (by omega) ?_
        (repeat (refine G.step ?_))
        refine G.ifd ?_ ?_ <;> intro hmany
        · (repeat (first | refine G.step ?_ | refine Gs.store ?_ | refine G.retc ?_))
          exact Gs.ret (by rw [hmanyR (by omega)])
        · have hl1 : f.R.length ≤ 1 := by omega
          refine Gs.lenF hqr (by omega) ?_
          refine Gs.lp (β := Nat) (fun k => I k) (fun _ => h) (fun k => [.blk eb [I (eL f.L).1, I (eL f.L).2, I (if k = 0 then 0 else (eL f.R).1), I (if k = 0 then 0 else (eL f.R).2)] 86, .blk rb [I 0, I 0] 36]) (fun k => k ≤ f.R.length ∧ (1 ≤ k → ∀ x ∈ f.R, (numF x).2.2 = true)) (fun k => f.R.length - k) 0 rfl ⟨Nat.zero_le _, fun h => by omega⟩ (fun _ s => s) ?_
          rintro k ⟨hk, hok⟩ cont2 hc2
          refine G.jk ?_; intro _
          (repeat (refine G.step ?_))
          refine G.ifd ?_ ?_ <;> intro hlt2
          · have hk0 : k = 0 := by omega
            subst hk0
            have hlen : 0 < f.R.length := by omega
            obtain ⟨x, hx⟩ : ∃ x, f.R = [x] := by
              match hfl : f.R with
              | [] => rw [hfl] at hlen; simp at hlen
              | [x] => exact ⟨x, rfl⟩
              | _ :: _ :: _ => rw [hfl] at hl1; simp at hl1
            refine Gs.indexF hqr hlen ?_
            intro b1 o1 x1 hpx hx1
            refine Gs.loadE hpx ?_
            have hmem : x ∈ f.R := by rw [hx]; simp
            have hx1 : NdR h x1 x := by simpa only [hx, List.getElem_cons_zero] using hx1
            refine Gs.callv0 (ih x (by have := sz_R hmem; omega) (by omega) (hnv.r x hmem) h x1 hx1) ?_
            (repeat (first | refine G.step ?_ | (refine Gs.alloc ?_; intro _) | refine Gs.store ?_))
            refine G.ifb ?_ ?_ <;> intro hbad
            · (repeat (first | refine G.step ?_ | refine Gs.store ?_ | refine G.retc ?_))
              exact Gs.ret (by rw [hbadR x hmem (by simpa using hbad)])
            · have hgood : (numF x).2.2 = true := by simpa using hbad
              (repeat (first | refine G.add (by omega) ?_ | refine G.step ?_ | refine Gs.store ?_))
              skip
              have hgo := hc2 1 ⟨by omega, fun _ y hy => by
                rw [hx, List.mem_singleton] at hy
                subst hy
                exact hgood⟩ (by omega)
              have heL : eL f.R = ((numF x).1, (numF x).2.1) := by rw [hx]; rfl
              rw [if_neg (by decide), if_neg (by decide), heL] at hgo
              exact Gs.goS hgo rfl
          · (repeat (refine G.add (by omega) ?_))
            refine Gs.go (t' := I ((2 : Nat) : Int)) ?_ rfl
            have hkl : k = f.R.length := by omega
            have := hc 2 ⟨by decide, fun _ => hjL (by decide), fun _ => ⟨hl1, fun x hx => hok (by have := List.length_pos_of_mem hx; omega) x hx⟩⟩ (by decide)
            have heq : ∀ v : Int, (v = (eL f.R).1 ∨ v = (eL f.R).2) → (if k = 0 then 0 else v) = v := by
              intro v hv
              by_cases h0 : k = 0
              · rw [if_pos h0]
                have : f.R = [] := List.eq_nil_of_length_eq_zero (by omega)
                rw [this] at hv
                unfold eL at hv
                rcases hv with rfl | rfl <;> rfl
              · rw [if_neg h0]
            rw [heq _ (.inl rfl), heq _ (.inr rfl)]
            exact this
    · have hj2 : j = 2 := by omega
      subst hj2
      obtain ⟨hL1, hLg⟩ := hjL (by decide)
      obtain ⟨hR1, hRg⟩ := hjR (by decide)
      simp only [if_neg (show ¬ (2 : Nat) = 0 by decide), if_neg (show ¬ (2 : Nat) ≤ 1 by decide)]
      have vL := fun x hx => (hnv.l x hx).v (hLg x hx)
      have vR := fun x hx => (hnv.r x hx).v (hRg x hx)
      clear hc cont hmanyL hmanyR hbadL hbadR hjL hjR
      refine Gs.dr ?_
      (repeat (refine G.qkp ?_))
      refine Gs.qloadP1 hp1 ?_
      refine Gs.qlenF hql (by omega) ?_
      (repeat (refine G.qkp ?_))
      refine Gs.qloadP1 hp2 ?_
      refine Gs.qlenF hqr (by omega) ?_
      (repeat (first | refine G.qadd (by omega) ?_ | refine G.qkp ?_))
      generalize hfl : f.L = fl at *
      generalize hfr : f.R = fr at *
      refine G.ifd ?_ ?_ <;> intro hz
      · (repeat (first | refine G.step ?_ | refine Gs.store ?_ | refine G.retc ?_))
        have e1 : fl = [] := List.eq_nil_of_length_eq_zero (by omega)
        have e2 : fr = [] := List.eq_nil_of_length_eq_zero (by omega)
        exact Gs.ret (by rw [hnum, e1, e2]; rfl)
      · (repeat (refine G.step ?_))
        refine Gs.loadP1 hp2 ?_
        refine Gs.lenF hqr (by omega) ?_
        (repeat (refine G.step ?_))
        refine G.ifd ?_ ?_ <;> intro hr0
        · have e2 : fr = [] := List.eq_nil_of_length_eq_zero (by omega)
          obtain ⟨x, rfl⟩ : ∃ x, fl = [x] := by
            match fl, hL1, hz with
            | [x], _, _ => exact ⟨x, rfl⟩
            | [], _, hz => rw [e2] at hz; simp at hz
            | _ :: _ :: _, h, _ => simp at h
          subst e2
          have hv := vL x (by simp)
          have hg := hLg x (by simp)
          obtain ⟨_, v1, v2, _⟩ := hv.2
          have v1' : -1099511627776 ≤ (eL [x]).1 ∧ (eL [x]).1 ≤ 1099511627776 := ⟨v1, v2⟩
          (repeat (first | refine G.add (by omega) ?_ | refine G.step ?_ | refine Gs.store ?_ | refine G.retc ?_))
          refine Gs.ret ?_
          rw [hnum]
          simp [numC, hg, eL]
        · (repeat (refine G.step ?_))
          refine Gs.loadP1 hp1 ?_
          refine Gs.lenF hql (by omega) ?_
          (repeat (refine G.step ?_))
          obtain ⟨y, rfl⟩ : ∃ y, fr = [y] := by
            match fr, hR1, hr0 with
            | [x], _, _ => exact ⟨x, rfl⟩
            | [], _, hz => simp at hz
            | _ :: _ :: _, h, _ => simp at h
          have hvy := vR y (by simp)
          have hgy := hRg y (by simp)
          refine G.ifd ?_ ?_ <;> intro hl0
          · have e1 : fl = [] := List.eq_nil_of_length_eq_zero (by omega)
            subst e1
            obtain ⟨_, v1, v2, _⟩ := hvy.2
            have v1' : -1099511627776 ≤ (eL [y]).1 ∧ (eL [y]).1 ≤ 1099511627776 := ⟨v1, v2⟩
            (repeat (first | refine G.sub (by omega) ?_ | refine G.step ?_ | refine Gs.store ?_ | refine G.retc ?_))
            refine Gs.ret ?_
            rw [hnum]
            simp [numC, hgy, eL]
          · obtain ⟨x, rfl⟩ : ∃ x, fl = [x] := by
              match fl, hL1, hl0 with
              | [x], _, _ => exact ⟨x, rfl⟩
              | [], _, hz => simp at hz
              | _ :: _ :: _, h, _ => simp at h
            have hvx := vL x (by simp)
            have hgx := hLg x (by simp)
            have ex1 : (numF x).2.1 = (((numF x).2.1.toNat : Nat) : Int) := by have := hvx.1; omega
            have ey1 : (numF y).2.1 = (((numF y).2.1.toNat : Nat) : Int) := by have := hvy.1; omega
            have hc1 : Ct Tryz.prog 54 [Fr2 (numF x).1 (numF x).2.1, Fr2 (numF y).1 (numF y).2.1] h (fun _ v => v = I (Go.Dy.cmpF (numF x).1 (numF x).2.1.toNat (numF y).1 (numF y).2.1.toNat)) := by
              have := Q.compare_ok (M := M) (numF x).1 (numF x).2.1.toNat (numF y).1 (numF y).2.1.toNat h hvx.2 hvy.2
              rwa [← ex1, ← ey1] at this
            have hc2 : Ct Tryz.prog 55 [Fr2 (numF x).1 (numF x).2.1, Fr2 (numF y).1 (numF y).2.1] h (fun _ v => v = Q.Two (btw (val (numF x).1 (numF x).2.1.toNat) (val (numF y).1 (numF y).2.1.toNat))) := by
              have := Q.Between_ok (M := M) (numF x).1 (numF x).2.1.toNat (numF y).1 (numF y).2.1.toNat h hvx.2 hvy.2
              rwa [← ex1, ← ey1] at this
            have hcv := Go.Dy.cmp_val (numF x).1 (numF x).2.1.toNat (numF y).1 (numF y).2.1.toNat hvx.2.1 hvy.2.1
            have hres : numF f = if val (numF y).1 (numF y).2.1.toNat ≤ val (numF x).1 (numF x).2.1.toNat then (0, 0, false) else
        ((btw (val (numF x).1 (numF x).2.1.toNat) (val (numF y).1 (numF y).2.1.toNat)).1, (btw (val (numF x).1 (numF x).2.1.toNat) (val (numF y).1 (numF y).2.1.toNat)).2.1, decide ((btw (val (numF x).1 (numF x).2.1.toNat) (val (numF y).1 (numF y).2.1.toNat)).2.2 = 0)) := by
              rw [hnum]
              simp [numC, hgx, hgy]
            (repeat (refine G.step ?_))
            skip
            refine Gs.callv0 hc1 ?_
            rw [hcv]
            generalize val (numF x).1 (numF x).2.1.toNat = A at *
            generalize val (numF y).1 (numF y).2.1.toNat = B at *
            (repeat (refine G.step ?_))
            refine G.ifd ?_ ?_ <;> intro hge
            · have hge2 : B ≤ A := by
                unfold Go.Dy.cmpI at hge
                split at hge <;> omega
              (repeat (first | refine G.step ?_ | refine Gs.store ?_ | refine G.retc ?_))
              exact Gs.ret (by rw [hres, if_pos hge2])
            · have hge2 : ¬ B ≤ A := by
                unfold Go.Dy.cmpI at hge
                split at hge
                · omega
                · split at hge <;> omega
              (repeat (refine G.step ?_))
              refine Gs.callv0 hc2 ?_
              (repeat (first | refine G.step ?_ | (refine Gs.alloc ?_; intro _) | refine Gs.store ?_ | refine G.retc ?_))
              exact Gs.ret (by rw [hres, if_neg hge2])
theorem Number_ok (f : Fm) (x : FmH) (h : Hp) (hx : FmR h x f) (hn : sz f ≤ 20000) (hnv : NV (canon f)) : Ct Tryz.prog 19 [vF x] h (fun _ v => v = Num3 (if (numF (canon f)).2.2 then numF (canon f) else (0, 0, false))) := by
  refine ct19 ?_
  intro w0
  unfold s19
  (repeat (first | (refine Gs.box ?_; intro _) | (refine Gs.alloc ?_; intro _)))
  refine open_ok ?_
  intro k h1 le1
  (repeat (refine G.step ?_))
  refine enter_ok w0 h k (sz f) f (Nat.le_refl _) (by omega) h1 _ _ x (hx.mono le1) ?_
  intro b1 h2 le2 hb1
  skip
  refine reduce_ok w0 h k (sz f) f (Nat.le_refl _) hn h2 _ _ b1 hb1 ?_
  intro c h3 le3 hc
  refine Gw.drop ?_
  intro h4 le4
  have := (canon_ok f).2.2
  refine Gs.callv0 (number_okC (sz (canon f)) (canon f) (Nat.le_refl _) (by omega) hnv h4 c (hc.mono le4)) ?_
  generalize numF (canon f) = r
  obtain ⟨rn, re, rb⟩ := r
  (repeat (first | refine G.step ?_ | (refine Gs.alloc ?_; intro _) | refine Gs.store ?_))
  cases rb with
  | true =>
    (repeat (first | refine G.step ?_ | refine Gs.store ?_ | refine G.retc ?_ | refine G.ift ?_))
    exact Gs.ret rfl
  | false =>
    refine G.iff ?_
    (repeat (first | refine G.step ?_ | refine Gs.store ?_ | refine G.retc ?_))
    exact Gs.ret rfl
theorem Number_ff (A : Int) (hA : Rg A) (f : Fm) (hf : canon f = ff A) (x : FmH) (h : Hp) (hx : FmR h x f) (hn : sz f ≤ 20000) : Ct Tryz.prog 19 [vF x] h (fun _ v => v = Num3 (nu A, (ex A : Int), true)) := by
  have := Number_ok (M := M) f x h hx hn (by rw [hf]; exact nv_ff hA)
  rw [hf, numF_ff hA] at this
  exact this
end Go.Proofs.YtgdochemlbjnlaaGreat
end

section
/-
  Values: the form of a number, its size.
-/
set_option linter.unusedVariables false
set_option linter.unusedSimpArgs false
set_option linter.unusedSectionVars false
set_option maxHeartbeats 8000000
namespace Go.Proofs.YtgdochemlbjnlaaGreat
open Go Go.Sk Go.Va Go.RowKit
open Go.Dy (strip Valid val btw validB)
variable {M : Go.Sk.Mode}
theorem strip_step (x : Nat) (m : Int) (hx : 0 < x) (hm : m % 2 = 0) : strip x m = strip (x - 1) (m / 2) := by
  obtain ⟨y, rfl⟩ : ∃ y, x = y + 1 := ⟨x - 1, by omega⟩
  conv => lhs; unfold strip
  rw [if_pos hm]
  rfl
theorem lowest_ok (n : Int) (e : Nat) (h : Hp) (hn : -4611686018427387904 ≤ n ∧ n ≤ 4611686018427387904) (he : e ≤ 1000) : Ct Tryz.prog 81 [I n, I e] h (fun _ v => v = Fr2 (strip e n).1 (strip e n).2) := by
  refine ct81 ?_
  intro w0
  unfold s81
  (repeat (refine Gs.alloc ?_; intro _))
  rename_i rb
  refine Gs.lp (β := Int × Nat) (fun b => (I b.1, I b.2)) (fun _ => h) (fun _ => [.blk rb [I 0, I 0] 36]) (fun b => strip b.2 b.1 = strip e n ∧ b.2 ≤ 1000 ∧ -4611686018427387904 ≤ b.1 ∧ b.1 ≤ 4611686018427387904) (fun b => b.2) (n, e) rfl ⟨rfl, he, hn.1, hn.2⟩ (fun _ s => s) ?_
  rintro ⟨m, x⟩ ⟨hs, hx, hm, hm'⟩ cont hc
  dsimp only at hs hx hm hm' hc ⊢
  refine G.jk ?_; intro _
  refine G.jnP (fun j => j = .bool (decide (0 < x ∧ m % 2 = 0))) ?_ ?_
  · rintro _ rfl
    refine G.jk ?_; intro _
    refine G.ifd ?_ ?_ <;> intro hgo
    · (repeat (first | refine G.sub (by omega) ?_ | refine G.quo (by omega) (by omega) ?_))
      refine Gs.go (hc (m / 2, x - 1) ⟨by rw [← hs]; exact (strip_step x m hgo.1 hgo.2).symm, by dsimp only; omega, by dsimp only; omega, by dsimp only; omega⟩ (by dsimp only; omega)) ?_
      dsimp only
      rw [Go.Dy.tdiv2 m hgo.2]
      congr 2
      omega
    · have hf : strip x m = (m, x) := Go.Dy.strip_of_odd x m (by omega)
      (repeat (first | refine G.step ?_ | refine Gs.store ?_ | refine G.retc ?_))
      exact Gs.ret (by rw [← hs, hf])
  · intro K hK
    (repeat (refine G.step ?_))
    refine G.gddt ?_ ?_ <;> intro c1
    · (repeat (first | refine G.rem (by omega) ?_ | refine G.step ?_))
      refine hK _ ?_
      congr 1
      rw [decide_eq_decide, Go.Dy.tmod2]
      omega
    · exact hK _ (by rw [decide_eq_false]; omega)
theorem half_ok (n : Int) (e : Nat) (h : Hp) (hn : -4611686018427387904 ≤ n ∧ n ≤ 4611686018427387904) (he : e ≤ 1000) : Ct Tryz.prog 61 [I n, I e] h (fun _ v => v = Fr2 (strip e n).1 (strip e n).2) := by
  refine ct61 ?_
  intro w0
  unfold s61
  (repeat (refine Gs.alloc ?_; intro _))
  rename_i rb
  refine Gs.lp (β := Int × Nat) (fun b => (I b.1, I b.2)) (fun _ => h) (fun _ => [.blk rb [I 0, I 0] 36]) (fun b => strip b.2 b.1 = strip e n ∧ b.2 ≤ 1000 ∧ -4611686018427387904 ≤ b.1 ∧ b.1 ≤ 4611686018427387904) (fun b => b.2) (n, e) rfl ⟨rfl, he, hn.1, hn.2⟩ (fun _ s => s) ?_
  rintro ⟨m, x⟩ ⟨hs, hx, hm, hm'⟩ cont hc
  dsimp only at hs hx hm hm' hc ⊢
  refine G.jk ?_; intro _
  refine G.jnP (fun j => j = .bool (decide (0 < x ∧ m % 2 = 0))) ?_ ?_
  · rintro _ rfl
    refine G.jk ?_; intro _
    refine G.ifd ?_ ?_ <;> intro hgo
    · (repeat (first | refine G.sub (by omega) ?_ | refine G.quo (by omega) (by omega) ?_))
      refine Gs.go (hc (m / 2, x - 1) ⟨by rw [← hs]; exact (strip_step x m hgo.1 hgo.2).symm, by dsimp only; omega, by dsimp only; omega, by dsimp only; omega⟩ (by dsimp only; omega)) ?_
      dsimp only
      rw [Go.Dy.tdiv2 m hgo.2]
      congr 2
      omega
    · have hf : strip x m = (m, x) := Go.Dy.strip_of_odd x m (by omega)
      (repeat (first | refine G.step ?_ | refine Gs.store ?_ | refine G.retc ?_))
      exact Gs.ret (by rw [← hs, hf])
  · intro K hK
    (repeat (refine G.step ?_))
    refine G.gddt ?_ ?_ <;> intro c1
    · (repeat (first | refine G.rem (by omega) ?_ | refine G.step ?_))
      refine hK _ ?_
      congr 1
      rw [decide_eq_decide, Go.Dy.tmod2]
      omega
    · exact hK _ (by rw [decide_eq_false]; omega)
/-! ### The options of a number's form -/
abbrev eFr : Int × Nat → List Value := fun x => [I x.1, I x.2]
instance encFr : Enc eFr 2 := ⟨fun _ => rfl, fun a v h => by
  simp only [eFr, List.mem_cons, List.not_mem_nil, or_false] at h
  rcases h with rfl | rfl <;> rfl⟩
instance ldFr : LdE Tryz.prog 36 eFr (fun x => Fr2 x.1 x.2) := LdE.agg
def plN (n : Int) (e : Nat) : List (Int × Nat) := if 0 < e then [strip e (n - 1)] else if 0 < n then [(n - 1, 0)] else []
def prN (n : Int) (e : Nat) : List (Int × Nat) := if 0 < e then [strip e (n + 1)] else if n < 0 then [(n + 1, 0)] else []
theorem parents_ok (n : Int) (e : Nat) (h : Hp) (hn : -1099511627776 ≤ n ∧ n ≤ 1099511627776) (he : e ≤ 30) : Ct Tryz.prog 60 [Fr2 n e] h (fun h' v => ∃ ql qr : SlH, v = .tuple #[slv ql, slv qr] ∧ RdE h' (slv ql) eFr 2 (plN n e) ∧ RdE h' (slv qr) eFr 2 (prN n e)) := by
  refine ct60 ?_
  intro w0
  unfold s60
  (repeat (first | refine G.step ?_ | (refine Gs.box ?_; intro _)))
  refine G.ifd ?_ ?_ <;> intro h0
  · have h0 : 0 < e := by omega
    have e1 : plN n e = [strip e (n - 1)] := by unfold plN; rw [if_pos h0]
    have e2 : prN n e = [strip e (n + 1)] := by unfold prN; rw [if_pos h0]
    rw [e1, e2]
    have k1 := fun h => lowest_ok (M := M) (n - 1) e h (by omega) (by omega)
    have k2 := fun h => lowest_ok (M := M) (n + 1) e h (by omega) (by omega)
    generalize strip e (n - 1) = a at *
    generalize strip e (n + 1) = b at *
    (repeat (first | refine Gs.dr ?_ | refine G.qadd (by omega) ?_ | refine G.qsub (by omega) ?_ | refine G.qkp ?_ | refine Gs.qkb ?_))
    refine Gs.callv0 (k1 h) ?_
    (repeat (first | refine G.withT ?_ | refine Gs.withb ?_))
    have fin : ∀ (L : List Itm) (b1 b2 : Nat) (K : Value → WP), (∀ h', Hle h h' → RdE h' (slv (some ⟨b1, 0, none⟩, 1, 1)) eFr 2 [a] → RdE h' (slv (some ⟨b2, 0, none⟩, 1, 1)) eFr 2 [b] → Gs w0 h h' L (K (.tuple #[slv (some ⟨b1, 0, none⟩, 1, 1), slv (some ⟨b2, 0, none⟩, 1, 1)]))) →
        Gs w0 h h (.sl (.slice (some ⟨b1, 0, none⟩) 1 1) 36 2 [I a.1, I a.2] :: .sl (.slice (some ⟨b2, 0, none⟩) 1 1) 36 2 [I b.1, I b.2] :: L) (K (.tuple #[.slice (some ⟨b1, 0, none⟩) 1 1, .slice (some ⟨b2, 0, none⟩) 1 1])) := by
      intro L b1 b2 K hK
      refine Gs.freezeE (enc := eFr) (v := .slice (some ⟨b1, 0, none⟩) 1 1) (l := [a]) (by decide) ?_
      intro h1 le1 r1
      refine Gs.freezeE (enc := eFr) (v := .slice (some ⟨b2, 0, none⟩) 1 1) (l := [b]) (by decide) ?_
      intro h2 le2 r2
      exact hK h2 (le1.trans le2) (r1.mono le2) r2
    refine G.or2 ?_ ?_
    · refine Gs.buildSlice (out := [I a.1, I a.2]) (by decide) ?_
      intro b1
      (repeat (first | refine G.withT ?_ | refine Gs.withb ?_))
      refine Gs.callv0 (k2 h) ?_
      refine Gs.buildSlice (out := [I b.1, I b.2]) (by decide) ?_
      intro b2
      refine Gs.perm (.swap _ _ _) (fin _ b1 b2 _ fun h' _ r1 r2 => Gs.ret ⟨_, _, rfl, r1, r2⟩)
    · refine Gs.callv0 (k2 h) ?_
      refine G.or2 ?_ ?_
      · refine Gs.buildSlice (out := [I a.1, I a.2]) (by decide) ?_
        intro b1
        (repeat (first | refine G.withT ?_ | refine Gs.withb ?_))
        refine Gs.buildSlice (out := [I b.1, I b.2]) (by decide) ?_
        intro b2
        refine Gs.perm (.swap _ _ _) (fin _ b1 b2 _ fun h' _ r1 r2 => Gs.ret ⟨_, _, rfl, r1, r2⟩)
      · refine Gs.buildSlice (out := [I b.1, I b.2]) (by decide) ?_
        intro b2
        refine Gs.buildSlice (out := [I a.1, I a.2]) (by decide) ?_
        intro b1
        (repeat (first | refine G.withT ?_ | refine Gs.withb ?_))
        exact fin _ b1 b2 _ fun h' _ r1 r2 => Gs.ret ⟨_, _, rfl, r1, r2⟩
  · have he0 : e = 0 := by omega
    subst he0
    (repeat (refine G.step ?_))
    refine G.ifd ?_ ?_ <;> intro h1
    · (repeat (first | refine G.sub (by omega) ?_ | refine G.step ?_))
      refine Gs.buildSlice (out := [I (n - 1), I ((0 : Nat) : Int)]) (by decide) ?_
      intro b1
      refine Gs.freezeE (enc := eFr) (v := .slice (some ⟨b1, 0, none⟩) 1 1) (l := [(n - 1, 0)]) (by decide) ?_
      intro h' le r1
      refine Gs.ret ⟨(some ⟨b1, 0, none⟩, 1, 1), (none, 0, 0), rfl, ?_, ?_⟩
      · unfold plN; rw [if_neg (by decide), if_pos h1]; exact r1
      · unfold prN; rw [if_neg (by decide), if_neg (by omega)]; exact RdE.nil _ _ _
    · (repeat (refine G.step ?_))
      refine G.ifd ?_ ?_ <;> intro h2
      · (repeat (first | refine Gs.dr ?_ | refine G.qadd (by omega) ?_ | refine G.qkp ?_ | refine Gs.qkb ?_))
        refine Gs.buildSlice (out := [I (n + 1), I ((0 : Nat) : Int)]) (by decide) ?_
        intro b1
        refine Gs.freezeE (enc := eFr) (v := .slice (some ⟨b1, 0, none⟩) 1 1) (l := [(n + 1, 0)]) (by decide) ?_
        intro h' le r1
        refine Gs.ret ⟨(none, 0, 0), (some ⟨b1, 0, none⟩, 1, 1), rfl, ?_, ?_⟩
        · unfold plN; rw [if_neg (by decide), if_neg (by omega)]; exact RdE.nil _ _ _
        · unfold prN; rw [if_neg (by decide), if_pos h2]; exact r1
      · refine Gs.ret ⟨(none, 0, 0), (none, 0, 0), rfl, ?_, ?_⟩
        · unfold plN; rw [if_neg (by decide), if_neg (by omega)]; exact RdE.nil _ _ _
        · unfold prN; rw [if_neg (by decide), if_neg (by omega)]; exact RdE.nil _ _ _
/-! ### Building, as long as there is room -/
structure BS (h : Hp) (A : Int) (r : Int) (y : FmH) (r' : Int) : Prop where
  ok : (sz (ff A) : Int) ≤ r → FmR h y (ff A) ∧ r' = r - sz (ff A)
  no : r < sz (ff A) → r' < 0
  low : r ≤ 0 → r' = r - 1
  up : 0 < r → -(me A : Int) - 1 ≤ r' ∧ r' ≤ r
theorem BS.mono {h h' : Hp} {A r r' : Int} {y : FmH} (hle : Hle h h') (b : BS h A r y r') : BS h' A r y r' := ⟨fun h1 => ⟨(b.ok h1).1.mono hle, (b.ok h1).2⟩, b.no, b.low, b.up⟩
/-- The options of one side. -/
def BL (h : Hp) (l : List (Int × Nat)) (r : Int) (xs : List FmH) (r' : Int) : Prop := match l with
  | [] => xs = [] ∧ r' = r
  | [x] => ∃ y, xs = [y] ∧ BS h (val x.1 x.2) r y r'
  | _ => False
theorem BL.mono {h h' : Hp} {r r' : Int} {xs : List FmH} (hle : Hle h h') : ∀ {l : List (Int × Nat)}, BL h l r xs r' → BL h' l r xs r'
  | [], b => b
  | [x], ⟨y, h1, h2⟩ => ⟨y, h1, h2.mono hle⟩
  | _ :: _ :: _, b => b
/-- A fraction in lowest terms, not too large. -/
def Vd (n : Int) (e : Nat) : Prop := e ≤ 30 ∧ (e = 0 ∨ n % 2 = 1) ∧ -1000000 ≤ n ∧ n ≤ 1000000
theorem Vd.nu {n : Int} {e : Nat} (h : Vd n e) : nu (val n e) = n ∧ ex (val n e) = e := nu_val ⟨h.1, by have := h.2.2.1; omega, by have := h.2.2.2; omega, h.2.1⟩
theorem Vd.un {n : Int} {e : Nat} (h : Vd n e) : un (val n e) = 2 ^ (30 - e) := by unfold Va.un; rw [h.nu.2]
theorem Vd.pos {n : Int} {e : Nat} (h : Vd n e) : (0 < val n e ↔ 0 < n) ∧ (val n e < 0 ↔ n < 0) := by
  have hu := un_pos (val n e)
  have hn := nu_un (val n e)
  rw [h.nu.1] at hn
  constructor
  · rw [← hn]
    exact ⟨fun h => Int.pos_of_mul_pos_left h hu, fun h => Int.mul_pos h hu⟩
  · rw [← hn]
    constructor
    · intro h1
      rcases Int.lt_or_le n 0 with h2 | h2
      · exact h2
      · have := Int.mul_nonneg h2 (Int.le_of_lt hu); omega
    · intro h1
      have := Int.mul_neg_of_neg_of_pos h1 hu
      exact this
theorem vd_strip {n d : Int} {e : Nat} (h : Vd n e) (h0 : 0 < e) (hd : d = 1 ∨ d = -1) : Vd (strip e (n + d)).1 (strip e (n + d)).2 ∧ val (strip e (n + d)).1 (strip e (n + d)).2 = val n e + d * Va.un (val n e) := by
  obtain ⟨h1, h2, h3, h4⟩ := h
  have ho : n % 2 = 1 := h2.resolve_left (by omega)
  have e1 := strip_step e (n + d) h0 (by omega)
  constructor
  · have a := Go.Dy.strip_le e (n + d)
    have b := Go.Dy.strip_odd e (n + d)
    have c := Go.Dy.strip_abs (e - 1) ((n + d) / 2) 1000000 (by omega) (by omega) (by decide)
    rw [← e1] at c
    exact ⟨by omega, b, c.1, c.2⟩
  · have a : strip 30 (val (n + d) e) = strip e (n + d) := Go.Dy.strip_val30 _ _ h1
    have b : val (strip e (n + d)).1 (strip e (n + d)).2 = val (n + d) e := by rw [← a]; exact Go.Dy.val_strip _
    rw [b, Vd.un ⟨h1, h2, h3, h4⟩]
    unfold val
    rw [Int.add_mul]
theorem pl_spec {n : Int} {e : Nat} (h : Vd n e) : ((0 < ex (val n e) ∨ 0 < val n e) ∧ ∃ x : Int × Nat, plN n e = [x] ∧ Vd x.1 x.2 ∧ val x.1 x.2 = val n e - Va.un (val n e)) ∨ (¬ (0 < ex (val n e) ∨ 0 < val n e) ∧ plN n e = []) := by
  rw [h.nu.2, h.pos.1]
  unfold plN
  by_cases h0 : 0 < e
  · left
    rw [if_pos h0]
    obtain ⟨a, b⟩ := vd_strip (d := -1) h h0 (.inr rfl)
    refine ⟨.inl h0, _, rfl, ?_, ?_⟩
    · exact a
    · rw [show n - 1 = n + -1 by omega, b]; omega
  · have he : e = 0 := by omega
    subst he
    rw [if_neg h0]
    by_cases hn : 0 < n
    · left
      rw [if_pos hn]
      refine ⟨.inr hn, _, rfl, ⟨by simp, .inl rfl, by have := h.2.2.1; dsimp only; omega, by have := h.2.2.2; dsimp only; omega⟩, ?_⟩
      rw [h.un]
      unfold val
      rw [Int.sub_mul, Int.one_mul]
    · right
      rw [if_neg hn]
      exact ⟨by omega, rfl⟩
theorem pr_spec {n : Int} {e : Nat} (h : Vd n e) : ((0 < ex (val n e) ∨ val n e < 0) ∧ ∃ x : Int × Nat, prN n e = [x] ∧ Vd x.1 x.2 ∧ val x.1 x.2 = val n e + Va.un (val n e)) ∨ (¬ (0 < ex (val n e) ∨ val n e < 0) ∧ prN n e = []) := by
  rw [h.nu.2, h.pos.2]
  unfold prN
  by_cases h0 : 0 < e
  · left
    rw [if_pos h0]
    obtain ⟨a, b⟩ := vd_strip (d := 1) h h0 (.inl rfl)
    refine ⟨.inl h0, _, rfl, ?_, ?_⟩
    · exact a
    · rw [b]; omega
  · have he : e = 0 := by omega
    subst he
    rw [if_neg h0]
    by_cases hn : n < 0
    · left
      rw [if_pos hn]
      refine ⟨.inr hn, _, rfl, ⟨by simp, .inl rfl, by have := h.2.2.1; dsimp only; omega, by have := h.2.2.2; dsimp only; omega⟩, ?_⟩
      rw [h.un]
      unfold val
      rw [Int.add_mul, Int.one_mul]
    · right
      rw [if_neg hn]
      exact ⟨by omega, rfl⟩
theorem sz_ff (A : Int) : (sz (ff A) : Int) = 1 + (if 0 < ex A ∨ 0 < A then (sz (ff (A - Va.un A)) : Int) else 0) + (if 0 < ex A ∨ A < 0 then (sz (ff (A + Va.un A)) : Int) else 0) := by
  rw [sz_eq, ff_L, ff_R]
  split <;> split <;> simp [szs]
/-- Both sides built: the whole is. -/
theorem BS.whole {h : Hp} {n : Int} {e : Nat} {r r1 r2 : Int} {xs zs : List FmH} {ql qr : SlH} (hv : Vd n e) (hr : 0 < r) (h1 : BL h (plN n e) (r - 1) xs r1) (h2 : BL h (prN n e) r1 zs r2) (hql : RdE h (slv ql) eFH 2 xs) (hqr : RdE h (slv qr) eFH 2 zs) : BS h (val n e) r (ql, qr) r2 := by
  have hs := sz_ff (val n e)
  have p1 := fun A => sz_pos (ff A)
  rcases pl_spec hv with ⟨c1, x, e1, v1, w1⟩ | ⟨c1, e1⟩ <;> rcases pr_spec hv with ⟨c2, y, e2, v2, w2⟩ | ⟨c2, e2⟩ <;> rw [e1] at h1 <;> rw [e2] at h2 <;> unfold BL at h1 h2
  · obtain ⟨y1, rfl, b1⟩ := h1
    obtain ⟨y2, rfl, b2⟩ := h2
    rw [w1] at b1
    rw [w2] at b2
    rw [if_pos c1, if_pos c2] at hs
    have m1 := me_l c1
    have m2 := me_r c2
    have q1 := p1 (val n e - Va.un (val n e))
    have q2 := p1 (val n e + Va.un (val n e))
    refine ⟨fun hle => ?_, fun hlt => ?_, fun h0 => by omega, fun _ => ?_⟩
    · obtain ⟨f1, g1⟩ := b1.ok (by omega)
      obtain ⟨f2, g2⟩ := b2.ok (by omega)
      refine ⟨FmR_iff.2 ⟨?_, ?_⟩, by omega⟩
      · rw [ff_L, if_pos c1]; exact ⟨_, hql, .cons f1 .nil⟩
      · rw [ff_R, if_pos c2]; exact ⟨_, hqr, .cons f2 .nil⟩
    · by_cases hb : (sz (ff (val n e - Va.un (val n e))) : Int) ≤ r - 1
      · have := (b1.ok hb).2
        exact b2.no (by omega)
      · have := b1.no (by omega)
        have := b2.low (by omega)
        omega
    · by_cases h3 : 0 < r - 1
      · have k1 := b1.up h3
        by_cases h4 : 0 < r1
        · have := b2.up h4; omega
        · have := b2.low (by omega); omega
      · have k1 := b1.low (by omega)
        have := b2.low (by omega)
        omega
  · obtain ⟨y1, rfl, b1⟩ := h1
    obtain ⟨rfl, rfl⟩ := h2
    rw [w1] at b1
    rw [if_pos c1, if_neg c2] at hs
    have m1 := me_l c1
    have q1 := p1 (val n e - Va.un (val n e))
    refine ⟨fun hle => ?_, fun hlt => b1.no (by omega), fun h0 => by omega, fun _ => ?_⟩
    · obtain ⟨f1, g1⟩ := b1.ok (by omega)
      refine ⟨FmR_iff.2 ⟨?_, ?_⟩, by omega⟩
      · rw [ff_L, if_pos c1]; exact ⟨_, hql, .cons f1 .nil⟩
      · rw [ff_R, if_neg c2]; exact ⟨_, hqr, .nil⟩
    · by_cases h3 : 0 < r - 1
      · have k1 := b1.up h3; omega
      · have k1 := b1.low (by omega); omega
  · obtain ⟨rfl, rfl⟩ := h1
    obtain ⟨y2, rfl, b2⟩ := h2
    rw [w2] at b2
    rw [if_neg c1, if_pos c2] at hs
    have m2 := me_r c2
    have q2 := p1 (val n e + Va.un (val n e))
    refine ⟨fun hle => ?_, fun hlt => b2.no (by omega), fun h0 => by omega, fun _ => ?_⟩
    · obtain ⟨f2, g2⟩ := b2.ok (by omega)
      refine ⟨FmR_iff.2 ⟨?_, ?_⟩, by omega⟩
      · rw [ff_L, if_neg c1]; exact ⟨_, hql, .nil⟩
      · rw [ff_R, if_pos c2]; exact ⟨_, hqr, .cons f2 .nil⟩
    · by_cases h3 : 0 < r - 1
      · have k1 := b2.up h3; omega
      · have k1 := b2.low (by omega); omega
  · obtain ⟨rfl, rfl⟩ := h1
    obtain ⟨rfl, rfl⟩ := h2
    rw [if_neg c1, if_neg c2] at hs
    refine ⟨fun hle => ?_, fun hlt => by omega, fun h0 => by omega, fun _ => by omega⟩
    refine ⟨FmR_iff.2 ⟨?_, ?_⟩, by omega⟩
    · rw [ff_L, if_neg c1]; exact ⟨_, hql, .nil⟩
    · rw [ff_R, if_neg c2]; exact ⟨_, hqr, .nil⟩
end Go.Proofs.YtgdochemlbjnlaaGreat
end

section
/-
  Values: building the form of a number; numbers' forms within the limit.
-/
set_option linter.unusedVariables false
set_option linter.unusedSimpArgs false
set_option linter.unusedSectionVars false
set_option maxHeartbeats 8000000
namespace Go.Proofs.YtgdochemlbjnlaaGreat
open Go Go.Sk Go.Va Go.RowKit
open Go.Dy (strip Valid val btw validB)
variable {M : Go.Sk.Mode}
theorem pl_len (n : Int) (e : Nat) : (plN n e).length ≤ 1 := by unfold plN; split; simp; split <;> simp
theorem pr_len1 (n : Int) (e : Nat) : (prN n e).length ≤ 1 := by unfold prN; split; simp; split <;> simp
theorem build_in {w0 : World} {h0 : Hp} : ∀ (N : Nat) (n : Int) (e : Nat), me (val n e) ≤ N → Vd n e → ∀ (h : Hp) (L R : List Itm) (K : Value → WP) (rb : Nat) (r : Int) [htk : TakeB L rb [I r] 3 R], -2000000 ≤ r ∧ r ≤ 2000000 →
    (∀ y h' r', Hle h h' → BS h' (val n e) r y r' → Gs w0 h0 h' (.blk rb [I r'] 3 :: R) (K (vF y))) → Gs w0 h0 h L (Do Tryz.prog (vCall (.func (.func 40) #[] ⟨[]⟩) [Fr2 n e, ptr rb 0]) K) := by
  intro N
  induction N with
  | zero =>
    intro n e hme hv h L R K rb r htk hr hk
    refine Gs.perm htk.perm ?_
    refine in40 ?_
    unfold s40
    have hsz := sz_pos (ff (val n e))
    have hmv : me (val n e) = e + n.natAbs := by unfold me; rw [hv.nu.1, hv.nu.2]
    have hv' := hv
    obtain ⟨g1, g2, g3, g4⟩ := hv'
    (repeat (first | refine G.sub (by omega) ?_ | refine G.step ?_ | (refine Gs.box ?_; intro _) | (refine Gs.alloc ?_; intro _) | refine Gs.store ?_))
    rename_i xb fb
    refine G.ifd ?_ ?_ <;> intro hneg
    · (repeat (first | refine G.step ?_ | refine Gs.store ?_ | refine G.retc ?_))
      exact Gs.sel (hk ((none, 0, 0), (none, 0, 0)) h (r - 1) (Hle.refl h) ⟨fun h1 => by omega, fun _ => hneg, fun _ => rfl, fun _ => by omega⟩)
    · (repeat (refine G.step ?_))
      refine Gs.call0 (parents_ok n e h (by omega) g1) ?_
      rintro _ h1 le1 ⟨ql, qr, rfl, rl, rr⟩
      have hll := pl_len n e
      have hlr := pr_len1 n e
      have hpl := fun (_ : Unit) => pl_spec hv
      have hpr := fun (_ : Unit) => pr_spec hv
      (repeat (refine G.step ?_))
      refine Gs.lenE rl (by omega) ?_
      refine Gs.nilsl 28 2 ?_
      refine Gs.sel (L' := .sl (.slice none 0 0) 28 2 [] :: .blk fb [.slice none 0 0, .slice none 0 0] 28 :: .blk xb [I n, I e] 36 :: .blk rb [I (r - 1)] 3 :: R) ?_
      refine Gs.lp (β := Nat × SlH × Hp × List FmH × Int) (fun u => I u.1) (fun u => u.2.2.1) (fun u => .sl (slv u.2.1) 28 2 (fl eFH u.2.2.2.1) :: .blk fb [slv u.2.1, .slice none 0 0] 28 :: .blk xb [I n, I e] 36 :: .blk rb [I u.2.2.2.2] 3 :: R) (fun u => u.1 ≤ (plN n e).length ∧ Hle h1 u.2.2.1 ∧ BL u.2.2.1 ((plN n e).take u.1) (r - 1) u.2.2.2.1 u.2.2.2.2 ∧ -1100000 ≤ u.2.2.2.2 ∧ u.2.2.2.2 ≤ 2000000) (fun u => (plN n e).length - u.1) (0, (none, 0, 0), h1, [], r - 1) rfl ⟨Nat.zero_le _, Hle.refl h1, by simp [BL], by dsimp only; omega, by dsimp only; omega⟩ (fun _ s => s) ?_
      rintro ⟨i, q, hh, xs, rx⟩ ⟨hi, hle, hbl, hb1, hb2⟩ cont hc
      dsimp only at hi hle hbl hb1 hb2 hc ⊢
      (repeat (first | refine G.step ?_ | (refine G.jk ?_; intro _)))
      refine G.ifd ?_ ?_ <;> intro hlt
      · have hi0 : i = 0 := by omega
        subst hi0
        have hno : ¬ ((plN n e) = []) := fun h0 => by rw [h0] at hlt; simp at hlt
        obtain ⟨c1, x, ex1, vx, wx⟩ := (hpl ()).resolve_right (fun h0 => hno h0.2)
        rw [ex1] at hlt hc hbl rl
        rw [List.take_zero] at hbl
        obtain ⟨rfl, rfl⟩ := hbl
        refine Gs.indexE (rl.mono hle) (show 0 < [x].length by simp) ?_
        intro b1 o1 hpx
        refine Gs.loadE hpx ?_
        rw [List.getElem_cons_zero]
        (repeat (first | (refine Gs.alloc ?_; intro _) | refine Gs.store ?_ | refine Gs.dr ?_ | refine G.qkp ?_ | refine Gs.qkb ?_))
        have hmx := me_l c1
        exfalso; omega
      · have hi' : i = (plN n e).length := by omega
        subst hi'
        rw [List.take_length] at hbl
        clear hc cont hlt hi
        refine Gs.freezeE (enc := eFH) (v := slv q) (by decide) ?_
        intro h2 le2 hfr
        have hbL := hbl.mono le2
        have le12 := hle.trans le2
        generalize q = qL at *
        generalize rx = rL at *
        generalize xs = xL at *
        clear hbl hle
        skip
        refine Gs.lenE (rr.mono le12) (by omega) ?_
        refine Gs.nilsl 28 2 ?_
        replace rr := rr.mono le12
        replace rl := rl.mono le12
        refine Gs.lp (β := Nat × SlH × Hp × List FmH × Int) (fun u => I u.1) (fun u => u.2.2.1) (fun u => .sl (slv u.2.1) 28 2 (fl eFH u.2.2.2.1) :: .blk fb [slv qL, slv u.2.1] 28 :: .blk xb [I n, I e] 36 :: .blk rb [I u.2.2.2.2] 3 :: R) (fun u => u.1 ≤ (prN n e).length ∧ Hle h2 u.2.2.1 ∧ BL u.2.2.1 ((prN n e).take u.1) rL u.2.2.2.1 u.2.2.2.2 ∧ -1200000 ≤ u.2.2.2.2 ∧ u.2.2.2.2 ≤ 2000000) (fun u => (prN n e).length - u.1) (0, (none, 0, 0), h2, [], rL) rfl ⟨Nat.zero_le _, Hle.refl h2, by simp [BL], by dsimp only; omega, by dsimp only; omega⟩ (fun _ s => s) ?_
        rintro ⟨i, q2, hh, xs, rx⟩ ⟨hi, hle, hbl, hb1, hb2⟩ cont hc
        dsimp only at hi hle hbl hb1 hb2 hc ⊢
        (repeat (first | refine G.step ?_ | (refine G.jk ?_; intro _)))
        refine G.ifd ?_ ?_ <;> intro hlt
        · have hi0 : i = 0 := by omega
          subst hi0
          have hno : ¬ ((prN n e) = []) := fun h0 => by rw [h0] at hlt; simp at hlt
          obtain ⟨c1, x, ex1, vx, wx⟩ := (hpr ()).resolve_right (fun h0 => hno h0.2)
          rw [ex1] at hlt hc hbl rr
          rw [List.take_zero] at hbl
          obtain ⟨rfl, rfl⟩ := hbl
          refine Gs.indexE (rr.mono hle) (show 0 < [x].length by simp) ?_
          intro b1 o1 hpx
          refine Gs.loadE hpx ?_
          rw [List.getElem_cons_zero]
          (repeat (first | (refine Gs.alloc ?_; intro _) | refine Gs.store ?_ | refine Gs.dr ?_ | refine G.qkp ?_ | refine Gs.qkb ?_))
          have hmx := me_r c1
          exfalso; omega
        · have hi' : i = (prN n e).length := by omega
          subst hi'
          rw [List.take_length] at hbl
          clear hc cont hlt hi
          refine Gs.freezeE (enc := eFH) (v := slv q2) (by decide) ?_
          intro h4 le4 hfr4
          (repeat (first | refine G.step ?_ | refine Gs.store ?_ | refine G.retc ?_))
          refine Gs.sel (hk (qL, q2) h4 rx (le1.trans (le12.trans (hle.trans le4))) ?_)
          exact BS.whole hv (by omega) (hbL.mono (hle.trans le4)) (hbl.mono le4) (hfr.mono (hle.trans le4)) hfr4
  | succ N ih =>
    intro n e hme hv h L R K rb r htk hr hk
    refine Gs.perm htk.perm ?_
    refine in40 ?_
    unfold s40
    have hsz := sz_pos (ff (val n e))
    have hmv : me (val n e) = e + n.natAbs := by unfold me; rw [hv.nu.1, hv.nu.2]
    have hv' := hv
    obtain ⟨g1, g2, g3, g4⟩ := hv'
    (repeat (first | refine G.sub (by omega) ?_ | refine G.step ?_ | (refine Gs.box ?_; intro _) | (refine Gs.alloc ?_; intro _) | refine Gs.store ?_))
    rename_i xb fb
    refine G.ifd ?_ ?_ <;> intro hneg
    · (repeat (first | refine G.step ?_ | refine Gs.store ?_ | refine G.retc ?_))
      exact Gs.sel (hk ((none, 0, 0), (none, 0, 0)) h (r - 1) (Hle.refl h) ⟨fun h1 => by omega, fun _ => hneg, fun _ => rfl, fun _ => by omega⟩)
    · (repeat (refine G.step ?_))
      refine Gs.call0 (parents_ok n e h (by omega) g1) ?_
      rintro _ h1 le1 ⟨ql, qr, rfl, rl, rr⟩
      have hll := pl_len n e
      have hlr := pr_len1 n e
      have hpl := fun (_ : Unit) => pl_spec hv
      have hpr := fun (_ : Unit) => pr_spec hv
      (repeat (refine G.step ?_))
      refine Gs.lenE rl (by omega) ?_
      refine Gs.nilsl 28 2 ?_
      refine Gs.sel (L' := .sl (.slice none 0 0) 28 2 [] :: .blk fb [.slice none 0 0, .slice none 0 0] 28 :: .blk xb [I n, I e] 36 :: .blk rb [I (r - 1)] 3 :: R) ?_
      refine Gs.lp (β := Nat × SlH × Hp × List FmH × Int) (fun u => I u.1) (fun u => u.2.2.1) (fun u => .sl (slv u.2.1) 28 2 (fl eFH u.2.2.2.1) :: .blk fb [slv u.2.1, .slice none 0 0] 28 :: .blk xb [I n, I e] 36 :: .blk rb [I u.2.2.2.2] 3 :: R) (fun u => u.1 ≤ (plN n e).length ∧ Hle h1 u.2.2.1 ∧ BL u.2.2.1 ((plN n e).take u.1) (r - 1) u.2.2.2.1 u.2.2.2.2 ∧ -1100000 ≤ u.2.2.2.2 ∧ u.2.2.2.2 ≤ 2000000) (fun u => (plN n e).length - u.1) (0, (none, 0, 0), h1, [], r - 1) rfl ⟨Nat.zero_le _, Hle.refl h1, by simp [BL], by dsimp only; omega, by dsimp only; omega⟩ (fun _ s => s) ?_
      rintro ⟨i, q, hh, xs, rx⟩ ⟨hi, hle, hbl, hb1, hb2⟩ cont hc
      dsimp only at hi hle hbl hb1 hb2 hc ⊢
      (repeat (first | refine G.step ?_ | (refine G.jk ?_; intro _)))
      refine G.ifd ?_ ?_ <;> intro hlt
      · have hi0 : i = 0 := by omega
        subst hi0
        have hno : ¬ ((plN n e) = []) := fun h0 => by rw [h0] at hlt; simp at hlt
        obtain ⟨c1, x, ex1, vx, wx⟩ := (hpl ()).resolve_right (fun h0 => hno h0.2)
        rw [ex1] at hlt hc hbl rl
        rw [List.take_zero] at hbl
        obtain ⟨rfl, rfl⟩ := hbl
        refine Gs.indexE (rl.mono hle) (show 0 < [x].length by simp) ?_
        intro b1 o1 hpx
        refine Gs.loadE hpx ?_
        rw [List.getElem_cons_zero]
        (repeat (first | (refine Gs.alloc ?_; intro _) | refine Gs.store ?_ | refine Gs.dr ?_ | refine G.qkp ?_ | refine Gs.qkb ?_))
        have hmx := me_l c1
        refine ih x.1 x.2 (by rw [wx]; omega) vx hh _ _ _ rb _ ⟨by omega, by omega⟩ ?_
        intro y h3 r3 le3 hbs
        have hmv2 : me (val x.1 x.2) < me (val n e) := by rw [wx]; exact hmx
        have hr3 : -1100000 ≤ r3 ∧ r3 ≤ 2000000 := by
          by_cases h0 : 0 < r - 1
          · have := hbs.up h0; omega
          · have := hbs.low (by omega); omega
        (repeat (first | refine G.withT ?_ | refine Gs.withb ?_))
        refine Gs.buildSlice (out := eFH y) (by decide) ?_
        intro eb
        (repeat (first | refine G.withT ?_ | refine Gs.withb ?_))
        refine Gs.appendO (enc := eFH) (l := []) (m := [y]) (e2 := 28) (by simp [fl]) (by simp) (by simp) ?_
        intro v'
        refine Gs.slH (v := v') ?_
        rintro q3 rfl
        (repeat (first | refine G.add (by omega) ?_ | refine Gs.store ?_ | refine G.qkp ?_))
        rw [List.nil_append]
        refine Gs.goS (hc (1, q3, h3, [y], r3) ⟨by simp, hle.trans le3, ⟨y, rfl, hbs⟩, hr3.1, hr3.2⟩ (by simp)) (by simp)
      · have hi' : i = (plN n e).length := by omega
        subst hi'
        rw [List.take_length] at hbl
        clear hc cont hlt hi
        refine Gs.freezeE (enc := eFH) (v := slv q) (by decide) ?_
        intro h2 le2 hfr
        have hbL := hbl.mono le2
        have le12 := hle.trans le2
        generalize q = qL at *
        generalize rx = rL at *
        generalize xs = xL at *
        clear hbl hle
        skip
        refine Gs.lenE (rr.mono le12) (by omega) ?_
        refine Gs.nilsl 28 2 ?_
        replace rr := rr.mono le12
        replace rl := rl.mono le12
        refine Gs.lp (β := Nat × SlH × Hp × List FmH × Int) (fun u => I u.1) (fun u => u.2.2.1) (fun u => .sl (slv u.2.1) 28 2 (fl eFH u.2.2.2.1) :: .blk fb [slv qL, slv u.2.1] 28 :: .blk xb [I n, I e] 36 :: .blk rb [I u.2.2.2.2] 3 :: R) (fun u => u.1 ≤ (prN n e).length ∧ Hle h2 u.2.2.1 ∧ BL u.2.2.1 ((prN n e).take u.1) rL u.2.2.2.1 u.2.2.2.2 ∧ -1200000 ≤ u.2.2.2.2 ∧ u.2.2.2.2 ≤ 2000000) (fun u => (prN n e).length - u.1) (0, (none, 0, 0), h2, [], rL) rfl ⟨Nat.zero_le _, Hle.refl h2, by simp [BL], by dsimp only; omega, by dsimp only; omega⟩ (fun _ s => s) ?_
        rintro ⟨i, q2, hh, xs, rx⟩ ⟨hi, hle, hbl, hb1, hb2⟩ cont hc
        dsimp only at hi hle hbl hb1 hb2 hc ⊢
        (repeat (first | refine G.step ?_ | (refine G.jk ?_; intro _)))
        refine G.ifd ?_ ?_ <;> intro hlt
        · have hi0 : i = 0 := by omega
          subst hi0
          have hno : ¬ ((prN n e) = []) := fun h0 => by rw [h0] at hlt; simp at hlt
          obtain ⟨c1, x, ex1, vx, wx⟩ := (hpr ()).resolve_right (fun h0 => hno h0.2)
          rw [ex1] at hlt hc hbl rr
          rw [List.take_zero] at hbl
          obtain ⟨rfl, rfl⟩ := hbl
          refine Gs.indexE (rr.mono hle) (show 0 < [x].length by simp) ?_
          intro b1 o1 hpx
          refine Gs.loadE hpx ?_
          rw [List.getElem_cons_zero]
          (repeat (first | (refine Gs.alloc ?_; intro _) | refine Gs.store ?_ | refine Gs.dr ?_ | refine G.qkp ?_ | refine Gs.qkb ?_))
          have hmx := me_r c1
          refine ih x.1 x.2 (by rw [wx]; omega) vx hh _ _ _ rb _ ⟨by omega, by omega⟩ ?_
          intro y h3 r3 le3 hbs
          have hmv2 : me (val x.1 x.2) < me (val n e) := by rw [wx]; exact hmx
          have hr3 : -1200000 ≤ r3 ∧ r3 ≤ 2000000 := by
            by_cases h0 : 0 < rx
            · have := hbs.up h0; omega
            · have := hbs.low (by omega); omega
          (repeat (first | refine G.withT ?_ | refine Gs.withb ?_))
          refine Gs.buildSlice (out := eFH y) (by decide) ?_
          intro eb
          (repeat (first | refine G.withT ?_ | refine Gs.withb ?_))
          refine Gs.appendO (enc := eFH) (l := []) (m := [y]) (e2 := 28) (by simp [fl]) (by simp) (by simp) ?_
          intro v'
          refine Gs.slH (v := v') ?_
          rintro q3 rfl
          (repeat (first | refine G.add (by omega) ?_ | refine Gs.store ?_ | refine G.qkp ?_))
          rw [List.nil_append]
          refine Gs.goS (hc (1, q3, h3, [y], r3) ⟨by simp, hle.trans le3, ⟨y, rfl, hbs⟩, hr3.1, hr3.2⟩ (by simp)) (by simp)
        · have hi' : i = (prN n e).length := by omega
          subst hi'
          rw [List.take_length] at hbl
          clear hc cont hlt hi
          refine Gs.freezeE (enc := eFH) (v := slv q2) (by decide) ?_
          intro h4 le4 hfr4
          (repeat (first | refine G.step ?_ | refine Gs.store ?_ | refine G.retc ?_))
          refine Gs.sel (hk (qL, q2) h4 rx (le1.trans (le12.trans (hle.trans le4))) ?_)
          exact BS.whole hv (by omega) (hbL.mono (hle.trans le4)) (hbl.mono le4) (hfr.mono (hle.trans le4)) hfr4
end Go.Proofs.YtgdochemlbjnlaaGreat
end

section
/-
  Values: Of: the form of a number, if there is room.
-/
set_option linter.unusedVariables false
set_option linter.unusedSimpArgs false
set_option linter.unusedSectionVars false
set_option maxHeartbeats 8000000
namespace Go.Proofs.YtgdochemlbjnlaaGreat
open Go Go.Sk Go.Va Go.RowKit
open Go.Dy (strip Valid val btw validB)
variable {M : Go.Sk.Mode}
/-- What Of answers: not a fraction; too big; the form. -/
def OfP (h : Hp) (n : Int) (e : Nat) (v : Value) : Prop :=
  (sz (ff (val n e)) ≤ 2000 ∧ ∃ y : FmH, v = .tuple #[vF y, I 0] ∧ FmR h y (ff (val n e))) ∨ (2000 < sz (ff (val n e)) ∧ v = .tuple #[vF ((none, 0, 0), (none, 0, 0)), I 2])
theorem of_bad (n e : Int) (h : Hp) (hv : validB n e = false) : Ct Tryz.prog 21 [Fr2 n e] h (fun _ v => v = .tuple #[vF ((none, 0, 0), (none, 0, 0)), I 190]) := by
  refine ct21 ?_
  intro w0
  unfold s21
  (repeat (first | refine G.step ?_ | (refine Gs.box ?_; intro _) | (refine Gs.alloc ?_; intro _)))
  refine Gs.call0 (Q.valid_ok n e h) ?_
  rintro _ h1 le1 rfl
  rw [hv]
  (repeat (first | refine G.step ?_ | refine Gs.store ?_ | refine G.retc ?_ | refine G.ift ?_))
  exact Gs.ret rfl
theorem of_ok (n : Int) (e : Nat) (h : Hp) (hv : Vd n e) : Ct Tryz.prog 21 [Fr2 n e] h (fun h' v => OfP h' n e v) := by
  refine ct21 ?_
  intro w0
  unfold s21
  have hvb : validB n e = true := (Go.Dy.validB_iff n e).2 ⟨hv.1, by have := hv.2.2.1; omega, by have := hv.2.2.2; omega, hv.2.1⟩
  (repeat (first | refine G.step ?_ | (refine Gs.box ?_; intro _) | (refine Gs.alloc ?_; intro _)))
  refine Gs.call0 (Q.valid_ok n e h) ?_
  rintro _ h1 le1 rfl
  rw [hvb]
  (repeat (first | refine G.step ?_ | (refine Gs.alloc ?_; intro _) | refine Gs.store ?_ | refine G.iff ?_))
  rename_i xb fb rb
  refine build_in _ n e (Nat.le_refl _) hv _ _ _ _ rb 2000 ⟨by decide, by decide⟩ ?_
  intro y h2 r2 le2 hbs
  have hr2 : -3000000 ≤ r2 ∧ r2 ≤ 2000 := by
    have := hbs.up (by decide)
    have hmv : me (val n e) = e + n.natAbs := by unfold me; rw [hv.nu.1, hv.nu.2]
    obtain ⟨g1, g2, g3, g4⟩ := hv
    omega
  (repeat (first | refine G.step ?_ | (refine Gs.alloc ?_; intro _) | refine Gs.store ?_))
  refine G.ifd ?_ ?_ <;> intro hneg
  · (repeat (first | refine G.step ?_ | refine Gs.store ?_ | refine G.retc ?_))
    refine Gs.ret (.inr ⟨?_, rfl⟩)
    by_cases hle : (sz (ff (val n e)) : Int) ≤ 2000
    · have := (hbs.ok hle).2; omega
    · omega
  · (repeat (first | refine G.step ?_ | refine Gs.store ?_ | refine G.retc ?_))
    by_cases hle : (sz (ff (val n e)) : Int) ≤ 2000
    · exact Gs.ret (.inl ⟨by omega, y, rfl, (hbs.ok hle).1⟩)
    · have := hbs.no (by omega); omega
/-- What the reference's size of a number's form is. -/
structure LS (A : Int) (e : Nat) (lim r : Int) : Prop where
  lo : 1 ≤ r
  hi : r ≤ 2001 * (e + 1)
  eq : (sz (ff A) : Int) ≤ lim → r = sz (ff A)
  big : lim < sz (ff A) → lim < r
theorem long_ok : ∀ (N : Nat) (n : Int) (e : Nat), e ≤ N → Vd n e → ∀ (lim : Int) (h : Hp), -100000 ≤ lim → lim ≤ 2000 → Ct Tryz.prog 42 [Fr2 n e, I lim] h (fun _ v => ∃ r, v = I r ∧ LS (val n e) e lim r) := by
  intro N
  induction N with
  | zero =>
    intro n e he hv lim h hl1 hl2
    have he0 : e = 0 := by omega
    subst he0
    refine ct42 ?_
    intro w0
    unfold s42
    have hp := sz_pos (ff (val n 0))
    have hw := sz_whole (A := val n 0) hv.nu.2
    rw [hv.nu.1] at hw
    obtain ⟨g1, g2, g3, g4⟩ := hv
    (repeat (first | refine G.step ?_ | (refine Gs.box ?_; intro _)))
    refine G.ifd ?_ ?_ <;> intro hlim
    · exact Gs.ret ⟨1, rfl, by omega, by omega, fun _ => by omega, fun _ => by omega⟩
    · (repeat (first | refine G.add (by omega) ?_ | refine G.sub (by omega) ?_ | refine G.step ?_ | refine G.ift ?_))
      exact Gs.ret ⟨_, rfl, by omega, by omega, fun _ => by omega, fun _ => by omega⟩
  | succ N ih =>
    intro n e he hv lim h hl1 hl2
    by_cases he0 : e = 0
    · subst he0
      exact ih n 0 (by omega) hv lim h hl1 hl2
    refine ct42 ?_
    intro w0
    unfold s42
    have hp := sz_pos (ff (val n e))
    have hs := sz_ff (val n e)
    have hx : 0 < ex (val n e) := by rw [hv.nu.2]; omega
    rw [if_pos (.inl hx), if_pos (.inl hx)] at hs
    obtain ⟨a1, a2⟩ := vd_strip (d := -1) hv (by omega) (.inr rfl)
    obtain ⟨c1, c2⟩ := vd_strip (d := 1) hv (by omega) (.inl rfl)
    have ho : n % 2 = 1 := hv.2.1.resolve_left he0
    have se1 := strip_step e (n + -1) (by omega) (by omega)
    have se2 := strip_step e (n + 1) (by omega) (by omega)
    have le1 := Go.Dy.strip_le (e - 1) ((n + -1) / 2)
    have le2 := Go.Dy.strip_le (e - 1) ((n + 1) / 2)
    rw [← se1] at le1
    rw [← se2] at le2
    rw [show n + -1 = n - 1 by omega] at a1 a2 le1
    rw [show val n e + -1 * Va.un (val n e) = val n e - Va.un (val n e) by omega] at a2
    rw [Int.one_mul] at c2
    rw [← a2, ← c2] at hs
    have hv' := hv
    obtain ⟨g1, g2, g3, g4⟩ := hv
    have p1 := sz_pos (ff (val (strip e (n - 1)).1 (strip e (n - 1)).2))
    have p2 := sz_pos (ff (val (strip e (n + 1)).1 (strip e (n + 1)).2))
    (repeat (first | refine G.step ?_ | (refine Gs.box ?_; intro _)))
    refine G.ifd ?_ ?_ <;> intro hlim
    · exact Gs.ret ⟨1, rfl, by omega, by omega, fun _ => by omega, fun _ => by omega⟩
    · (repeat (refine G.step ?_))
      refine G.ifn (by omega) ?_
      (repeat (first | refine G.sub (by omega) ?_ | refine G.step ?_))
      refine Gs.call0 (half_ok (n - 1) e h (by omega) (by omega)) ?_
      rintro _ h1 hle1 rfl
      (repeat (refine G.sub (by omega) ?_))
      refine Gs.call0 (ih _ _ (by omega) a1 (lim - 1) h1 (by omega) (by omega)) ?_
      rintro _ h2 hle2 ⟨r1, rfl, k1⟩
      obtain ⟨k11, k12, k13, k14⟩ := k1
      (repeat (refine G.step ?_))
      refine G.ifd ?_ ?_ <;> intro hgt
      · exact Gs.ret ⟨r1, rfl, by omega, by omega, fun _ => by omega, fun _ => by omega⟩
      · (repeat (first | refine G.add (by omega) ?_ | refine G.step ?_))
        refine Gs.call0 (half_ok (n + 1) e h2 (by omega) (by omega)) ?_
        rintro _ h3 hle3 rfl
        (repeat (refine G.sub (by omega) ?_))
        refine Gs.call0 (ih _ _ (by omega) c1 (lim - r1) h3 (by omega) (by omega)) ?_
        rintro _ h4 hle4 ⟨r2, rfl, k2⟩
        obtain ⟨k21, k22, k23, k24⟩ := k2
        (repeat (refine G.add (by omega) ?_))
        exact Gs.ret ⟨1 + r1 + r2, rfl, by omega, by omega, fun _ => by omega, fun _ => by omega⟩
end Go.Proofs.YtgdochemlbjnlaaGreat
end

section
/-
  Values: forms made of numbers.
-/
set_option linter.unusedVariables false
set_option linter.unusedSimpArgs false
set_option linter.unusedSectionVars false
set_option maxHeartbeats 8000000
namespace Go.Proofs.YtgdochemlbjnlaaGreat
open Go Go.Sk Go.Va Go.RowKit
variable {M : Go.Sk.Mode}
section
variable {w0 : World} {h0 h : Hp} {L : List Itm} {X : WP}
theorem sl1 {b : Nat} {x : FmH} {f : Fm} (hx : FmR h x f) (hk : ∀ h', Hle h h' → RdF h' (slv (some ⟨b, 0, none⟩, 1, 1)) eFH 2 FmR [f] → Gs w0 h0 h' L X) : Gs w0 h0 h (.sl (.slice (some ⟨b, 0, none⟩) 1 1) 28 2 [slv x.1, slv x.2] :: L) X := by
  refine Gs.freezeE (enc := eFH) (v := .slice (some ⟨b, 0, none⟩) 1 1) (l := [x]) (by decide) ?_
  intro h1 le1 r1
  exact hk h1 le1 ⟨[x], r1, .cons (hx.mono le1) .nil⟩
theorem sl2 {b : Nat} {x y : FmH} {f g : Fm} (hx : FmR h x f) (hy : FmR h y g) (hk : ∀ h', Hle h h' → RdF h' (slv (some ⟨b, 0, none⟩, 2, 2)) eFH 2 FmR [f, g] → Gs w0 h0 h' L X) : Gs w0 h0 h (.sl (.slice (some ⟨b, 0, none⟩) 2 2) 28 2 [slv x.1, slv x.2, slv y.1, slv y.2] :: L) X := by
  refine Gs.freezeE (enc := eFH) (v := .slice (some ⟨b, 0, none⟩) 2 2) (l := [x, y]) (by decide) ?_
  intro h1 le1 r1
  exact hk h1 le1 ⟨[x, y], r1, .cons (hx.mono le1) (.cons (hy.mono le1) .nil)⟩
end
theorem u8b (b : UInt8) : b.toNat < 256 := b.toNat_lt
theorem rmade_ok (q : SlH) (l : List UInt8) (c : Nat) (h : Hp) (hq : RdE h (slv q) eByte 1 l) (hl : l.length ≤ 9223372036854775807) (hc : 3 ≤ c ∧ c ≤ 1000) :
    Ct Tryz.prog 5 [slv q, I c] h (fun h' v => ∃ (x : FmH) (f : Fm), v = vF x ∧ FmR h' x f ∧ sz f ≤ c) := by
  refine ct5 ?_
  intro w0
  unfold s5
  (repeat (first | refine G.step ?_ | (refine Gs.alloc ?_; intro _)))
  rename_i rb
  refine Gs.buildSlice (out := [.slice none 0 0, .slice none 0 0]) (by decide) ?_
  intro fb
  refine Gs.lp (β := Nat × SlH × Hp × List FmH × List Fm) (fun u => (slv u.2.1, I u.1)) (fun u => u.2.2.1) (fun u => [.sl (slv u.2.1) 28 2 (fl eFH u.2.2.2.1), .blk rb [.slice none 0 0, .slice none 0 0] 28]) (fun u => u.1 ≤ 12 ∧ u.1 ≤ l.length ∧ Hle h u.2.2.1 ∧ All2 (FmR u.2.2.1) u.2.2.2.1 u.2.2.2.2 ∧ 1 ≤ u.2.2.2.1.length ∧ u.2.2.2.1.length ≤ u.1 + 1 ∧ ∀ f ∈ u.2.2.2.2, sz f ≤ c) (fun u => 12 - u.1) (0, (some ⟨fb, 0, none⟩, 1, 1), h, [((none, 0, 0), (none, 0, 0))], [Va.zero]) rfl ⟨Nat.zero_le _, Nat.zero_le _, Hle.refl h, .cons (FmR.zero h) .nil, Nat.le_refl _, Nat.le_refl _, fun f hf => by simp at hf; subst hf; show 1 ≤ c; omega⟩ (fun _ s => s) ?_
  rintro ⟨i, qf, hh, xs, fs⟩ ⟨hi, hil, hle, hxs, hn1, hn2, hsz⟩ cont hc'
  dsimp only at hi hil hle hxs hn1 hn2 hsz hc' ⊢
  have hlen := hxs.len
  refine G.jk ?_; intro _
  refine G.jnP (fun j => j = .bool (decide (i < l.length ∧ i < 12))) ?_ ?_
  · rintro _ rfl
    refine G.jk ?_; intro _
    refine G.ifd ?_ ?_ <;> intro hgo
    · have hlt := hgo.1
      have hlt12 := hgo.2
      refine G.jnk (fun (j : Value) S' => ∃ (q' : SlH) (h' : Hp) (xs' : List FmH) (fs' : List Fm), j = slv q' ∧ Hle hh h' ∧ All2 (FmR h') xs' fs' ∧ 1 ≤ xs'.length ∧ xs'.length ≤ i + 2 ∧ (∀ f ∈ fs', sz f ≤ c) ∧ S' = St w0 h h' [.sl (slv q') 28 2 (fl eFH xs'), .blk rb [.slice none 0 0, .slice none 0 0] 28]) ?_ ?_
      · rintro _ _ ⟨q', h', xs', fs', rfl, le', a1, a2, a3, a4, rfl⟩
        refine G.jk ?_; intro _
        (repeat (refine G.add (by omega) ?_))
        exact Gs.go (t' := (slv q', I ((i + 1 : Nat) : Int))) (hc' (i + 1, q', h', xs', fs') ⟨by dsimp only; omega, by dsimp only; omega, hle.trans le', a1, a2, by dsimp only; omega, a4⟩ (by dsimp only; omega)) (by simp)
      · intro k6 hk6
        refine G.jnk (fun (j : Value × Value × Value) S' => ∃ (ba bb bc : Nat) (xa xb xc : FmH) (fa fb fc : Fm), j = (ptr ba 0, ptr bb 0, ptr bc 0) ∧ FmR hh xa fa ∧ FmR hh xb fb ∧ FmR hh xc fc ∧ sz fa ≤ c ∧ sz fb ≤ c ∧ sz fc ≤ c ∧ S' = St w0 h hh [.blk ba [slv xa.1, slv xa.2] 28, .blk bb [slv xb.1, slv xb.2] 28, .blk bc [slv xc.1, slv xc.2] 28, .sl (slv qf) 28 2 (fl eFH xs), .blk rb [.slice none 0 0, .slice none 0 0] 28]) ?_ ?_
        · rintro _ _ ⟨ba, bb, bc, xa, xb, xc, fa, fb, fc, rfl, ra, rb', rc, sa, sb, sc, rfl⟩
          refine G.jk ?_; intro _
          (repeat (refine G.step ?_))
          refine Gs.buildSlice (out := [slv xa.1, slv xa.2]) (by decide) ?_
          intro b1
          refine sl1 ra ?_
          intro h1 le1 r1
          (repeat (refine G.step ?_))
          refine Gs.buildSlice (out := [slv xb.1, slv xb.2]) (by decide) ?_
          intro b2
          refine sl1 (rb'.mono le1) ?_
          intro h2 le2 r2
          (repeat (first | refine G.step ?_ | (refine Gs.alloc ?_; intro _) | refine Gs.store ?_))
          rename_i fb2
          refine G.jnk (fun (_ : Unit) S' => ∃ (h' : Hp) (y : FmH) (f : Fm), Hle hh h' ∧ FmR h' y f ∧ sz f ≤ 3 * c + 1 ∧ S' = St w0 h h' [.blk fb2 [slv y.1, slv y.2] 28, .sl (slv qf) 28 2 (fl eFH xs), .blk rb [.slice none 0 0, .slice none 0 0] 28]) ?_ ?_
          · rintro _ _ ⟨h', y, f, le', ry, sy, rfl⟩
            refine G.jk ?_; intro _
            (repeat (refine G.step ?_))
            refine Gs.callv0 (rsize_ok (3 * c + 1) f sy (by omega) h' y ry) ?_
            (repeat (refine G.step ?_))
            refine G.ifd ?_ ?_ <;> intro hfit
            · (repeat (refine G.step ?_))
              refine Gs.buildSlice (out := eFH y) (by decide) ?_
              intro eb
              skip
              refine Gs.appendO (enc := eFH) (l := xs) (m := [y]) (e2 := 28) (by simp [fl]) (by simp; omega) (by simp; omega) ?_
              intro v'
              refine Gs.slH (v := v') ?_
              rintro q2 rfl
              refine Gs.sel (L' := [.sl (slv q2) 28 2 (fl eFH (xs ++ [y])), .blk rb [.slice none 0 0, .slice none 0 0] 28]) ?_
              exact hk6 _ _ ⟨q2, h', xs ++ [y], fs ++ [f], rfl, le', (hxs.monoR le').snoc ry, by simp, by simp; omega, fun g hg => by
                rcases List.mem_append.1 hg with hg | hg
                · exact hsz g hg
                · simp at hg; subst hg; omega, rfl⟩
            · refine Gs.sel (L' := [.sl (slv qf) 28 2 (fl eFH xs), .blk rb [.slice none 0 0, .slice none 0 0] 28]) ?_
              exact hk6 _ _ ⟨qf, h', xs, fs, rfl, le', hxs.monoR le', hn1, by omega, hsz, rfl⟩
          · intro k16 hk16
            have ra2 := ra.mono (le1.trans le2)
            have rb2 := rb'.mono (le1.trans le2)
            have rc2 := rc.mono (le1.trans le2)
            have le12 := le1.trans le2
            have r1 := r1.mono le2
            have hu := u8b l[i]
            refine Gs.indexE (hq.mono (hle.trans le12)) hlt ?_
            intro b3 o3 hp3
            refine Gs.loadP1 hp3 ?_
            refine G.quo8 (by omega) (by omega) ?_
            generalize ((l[i].toNat : Int) / 32) = kd
            refine G.jnP (fun j => ∃ bo, j = .bool bo) ?_ ?_
            · rintro _ ⟨bo, rfl⟩
              refine G.jk ?_; intro _
              refine G.ifb ?_ ?_ <;> intro h26
              · (repeat (refine G.step ?_))
                refine Gs.buildSlice (out := [slv xc.1, slv xc.2]) (by decide) ?_
                intro b4
                refine sl1 rc2 ?_
                intro h3 le3 r3
                (repeat (first | refine G.step ?_ | refine Gs.store ?_))
                refine Gs.sel (L' := [.blk fb2 [slv (some ⟨b4, 0, none⟩, 1, 1), slv (none, 0, 0)] 28, .sl (slv qf) 28 2 (fl eFH xs), .blk rb [.slice none 0 0, .slice none 0 0] 28]) ?_
                exact hk16 () _ ⟨h3, ((some ⟨b4, 0, none⟩, 1, 1), (none, 0, 0)), .mk [fc] [], le12.trans le3, FmR_iff.2 ⟨r3, RdF.nil _ _ _ _⟩, by simp [sz, szs]; omega, rfl⟩
              · refine G.jnP (fun j => ∃ bo, j = .bool bo) ?_ ?_
                · rintro _ ⟨bo2, rfl⟩
                  refine G.jk ?_; intro _
                  refine G.ifb ?_ ?_ <;> intro h31
                  · (repeat (refine G.step ?_))
                    refine Gs.buildSlice (out := [slv xc.1, slv xc.2]) (by decide) ?_
                    intro b4
                    refine sl1 rc2 ?_
                    intro h3 le3 r3
                    (repeat (first | refine G.step ?_ | refine Gs.store ?_))
                    refine Gs.sel (L' := [.blk fb2 [slv (none, 0, 0), slv (some ⟨b4, 0, none⟩, 1, 1)] 28, .sl (slv qf) 28 2 (fl eFH xs), .blk rb [.slice none 0 0, .slice none 0 0] 28]) ?_
                    exact hk16 () _ ⟨h3, ((none, 0, 0), (some ⟨b4, 0, none⟩, 1, 1)), .mk [] [fc], le12.trans le3, FmR_iff.2 ⟨RdF.nil _ _ _ _, r3⟩, by simp [sz, szs]; omega, rfl⟩
                  · (repeat (refine G.step ?_))
                    refine G.ifd ?_ ?_ <;> intro h4
                    · (repeat (refine G.step ?_))
                      refine Gs.buildSlice (out := [slv xa.1, slv xa.2, slv xc.1, slv xc.2]) (by decide) ?_
                      intro b4
                      refine sl2 ra2 rc2 ?_
                      intro h3 le3 r3
                      (repeat (refine G.step ?_))
                      refine Gs.buildSlice (out := [slv xb.1, slv xb.2]) (by decide) ?_
                      intro b5
                      refine sl1 (rb2.mono le3) ?_
                      intro h4 le4 r4
                      (repeat (first | refine G.step ?_ | refine Gs.store ?_))
                      refine Gs.sel (L' := [.blk fb2 [slv (some ⟨b4, 0, none⟩, 2, 2), slv (some ⟨b5, 0, none⟩, 1, 1)] 28, .sl (slv qf) 28 2 (fl eFH xs), .blk rb [.slice none 0 0, .slice none 0 0] 28]) ?_
                      exact hk16 () _ ⟨h4, ((some ⟨b4, 0, none⟩, 2, 2), (some ⟨b5, 0, none⟩, 1, 1)), .mk [fa, fc] [fb], le12.trans (le3.trans le4), FmR_iff.2 ⟨r3.mono le4, r4⟩, by simp [sz, szs]; omega, rfl⟩
                    · (repeat (refine G.step ?_))
                      refine G.ifd ?_ ?_ <;> intro h5
                      · (repeat (refine G.step ?_))
                        refine Gs.buildSlice (out := [slv xa.1, slv xa.2]) (by decide) ?_
                        intro b4
                        refine sl1 ra2 ?_
                        intro h3 le3 r3
                        (repeat (refine G.step ?_))
                        refine Gs.buildSlice (out := [slv xc.1, slv xc.2, slv xb.1, slv xb.2]) (by decide) ?_
                        intro b5
                        refine sl2 (rc2.mono le3) (rb2.mono le3) ?_
                        intro h4 le4 r4
                        (repeat (first | refine G.step ?_ | refine Gs.store ?_))
                        refine Gs.sel (L' := [.blk fb2 [slv (some ⟨b4, 0, none⟩, 1, 1), slv (some ⟨b5, 0, none⟩, 2, 2)] 28, .sl (slv qf) 28 2 (fl eFH xs), .blk rb [.slice none 0 0, .slice none 0 0] 28]) ?_
                        exact hk16 () _ ⟨h4, ((some ⟨b4, 0, none⟩, 1, 1), (some ⟨b5, 0, none⟩, 2, 2)), .mk [fa] [fc, fb], le12.trans (le3.trans le4), FmR_iff.2 ⟨r3.mono le4, r4⟩, by simp [sz, szs]; omega, rfl⟩
                      · refine Gs.sel (L' := [.blk fb2 [slv (some ⟨b1, 0, none⟩, 1, 1), slv (some ⟨b2, 0, none⟩, 1, 1)] 28, .sl (slv qf) 28 2 (fl eFH xs), .blk rb [.slice none 0 0, .slice none 0 0] 28]) ?_
                        exact hk16 () _ ⟨h2, ((some ⟨b1, 0, none⟩, 1, 1), (some ⟨b2, 0, none⟩, 1, 1)), .mk [fa] [fb], le12, FmR_iff.2 ⟨r1, r2⟩, by simp [sz, szs]; omega, rfl⟩
                · intro k31 hk31
                  (repeat (refine G.step ?_))
                  refine G.ifd ?_ ?_ <;> intro h2
                  · exact hk31 _ ⟨_, rfl⟩
                  · (repeat (refine G.step ?_))
                    exact hk31 _ ⟨_, rfl⟩
            · intro k26 hk26
              (repeat (refine G.step ?_))
              refine G.ifd ?_ ?_ <;> intro h2
              · exact hk26 _ ⟨_, rfl⟩
              · (repeat (refine G.step ?_))
                exact hk26 _ ⟨_, rfl⟩
        · intro k8 hk8
          have hu := u8b l[i]
          have hpos : (0 : Int) < (xs.length : Int) := by omega
          refine Gs.dr ?_
          refine Gs.qindexE (hq.mono hle) hlt ?_
          intro b1 o1 hp1
          refine Gs.qloadP1 hp1 ?_
          refine G.qconv (by omega) ?_
          refine Gs.qolen (enc := eFH) (l := xs) (by omega) ?_
          refine G.qremN (by omega) (by omega) ?_
          obtain ⟨ka, hka, hka2⟩ : ∃ k : Nat, (l[i].toNat : Int) % xs.length = k ∧ k < xs.length := by
            have e1 := Int.emod_nonneg (l[i].toNat : Int) (show (xs.length : Int) ≠ 0 by omega)
            have e2 := Int.emod_lt_of_pos (l[i].toNat : Int) hpos
            exact ⟨((l[i].toNat : Int) % xs.length).toNat, by omega, by omega⟩
          rw [hka]
          refine Gs.qoindex (enc := eFH) (l := xs) hka2 ?_
          intro ca oa pa
          refine Gs.qoloadE pa ?_
          refine Gs.qindexE (hq.mono hle) hlt ?_
          intro b2 o2 hp2
          refine Gs.qloadP1 hp2 ?_
          refine G.qquo8 (by omega) (by omega) ?_
          refine G.qconv (by omega) ?_
          refine Gs.qolen (enc := eFH) (l := xs) (by omega) ?_
          refine G.qremN (by omega) (by omega) ?_
          obtain ⟨kb, hkb, hkb2⟩ : ∃ k : Nat, ((l[i].toNat : Int) / 4) % xs.length = k ∧ k < xs.length := by
            have e1 := Int.emod_nonneg ((l[i].toNat : Int) / 4) (show (xs.length : Int) ≠ 0 by omega)
            have e2 := Int.emod_lt_of_pos ((l[i].toNat : Int) / 4) hpos
            exact ⟨(((l[i].toNat : Int) / 4) % xs.length).toNat, by omega, by omega⟩
          rw [hkb]
          refine Gs.qoindex (enc := eFH) (l := xs) hkb2 ?_
          intro cb ob pb
          refine Gs.qoloadE pb ?_
          refine Gs.qolen (enc := eFH) (l := xs) (by omega) ?_
          refine G.qsub (by omega) ?_
          rw [show (xs.length : Int) - 1 = ((xs.length - 1 : Nat) : Int) by omega]
          refine Gs.qoindex (enc := eFH) (l := xs) (show xs.length - 1 < xs.length by omega) ?_
          intro cc oc pc
          refine Gs.qoloadE pc ?_
          have ga := hxs.get ka hka2 (by omega)
          have gb := hxs.get kb hkb2 (by omega)
          have gc := hxs.get (xs.length - 1) (by omega) (by omega)
          have sa := hsz _ (List.getElem_mem (show ka < fs.length by omega))
          have sb := hsz _ (List.getElem_mem (show kb < fs.length by omega))
          have sc := hsz _ (List.getElem_mem (show xs.length - 1 < fs.length by omega))
          generalize xs[ka] = xa at *
          generalize xs[kb] = xb at *
          generalize xs[xs.length - 1] = xc at *
          have fin : ∀ ba bb bc, Gs w0 h hh [.blk ba [slv xa.1, slv xa.2] 28, .blk bb [slv xb.1, slv xb.2] 28, .blk bc [slv xc.1, slv xc.2] 28, .sl (slv qf) 28 2 (fl eFH xs), .blk rb [.slice none 0 0, .slice none 0 0] 28] (k8 (ptr ba 0, ptr bb 0, ptr bc 0)) := fun ba bb bc => hk8 _ _ ⟨ba, bb, bc, xa, xb, xc, _, _, _, rfl, ga, gb, gc, sa, sb, sc, rfl⟩
          (repeat' (first | refine Gs.withsl ?_ | refine Gs.withf (Hle.refl _) ?_ | refine G.withT ?_ | (refine Gs.alloc ?_; intro _) | refine Gs.store ?_ | refine G.or2 ?_ ?_ | exact Gs.sel (fin _ _ _)))
    · skip
      refine Gs.olen (enc := eFH) (l := xs) (by omega) ?_
      (repeat (refine G.sub (by omega) ?_))
      rw [show (xs.length : Int) - 1 = ((xs.length - 1 : Nat) : Int) by omega]
      refine Gs.oindex (enc := eFH) (l := xs) (show xs.length - 1 < xs.length by omega) ?_
      intro cc oc pc
      refine Gs.oloadE pc ?_
      have gc := hxs.get (xs.length - 1) (by omega) (by omega)
      have sc := hsz _ (List.getElem_mem (show xs.length - 1 < fs.length by omega))
      (repeat (first | refine Gs.store ?_ | refine G.retc ?_))
      exact Gs.ret ⟨_, _, rfl, gc, sc⟩
  · intro k5 hk5
    refine Gs.lenE (hq.mono hle) (by omega) ?_
    (repeat (refine G.step ?_))
    refine G.gddt ?_ ?_ <;> intro c1
    · (repeat (refine G.step ?_))
      refine hk5 _ ?_
      congr 1
      rw [decide_eq_decide]
      omega
    · exact hk5 _ (by rw [decide_eq_false]; omega)
end Go.Proofs.YtgdochemlbjnlaaGreat
end

section
/-
  Values: regions in all orders that make three forms and put each into a block of its own.
-/
set_option linter.unusedVariables false
set_option linter.unusedSimpArgs false
set_option linter.unusedSectionVars false
set_option maxHeartbeats 4000000
namespace Go.Proofs.YtgdochemlbjnlaaGreat
open Go Go.Sk Go.Va Go.RowKit
variable {M : Go.Sk.Mode} {w0 : World} {h0 h : Hp} {L : List Itm}
/-- All orders, in states that depend on what was done. -/
theorem G.allO2 {l : List (List Nat × StepV)} {K : (Nat → Value) → WP} {S0 : WP} {S : List Nat → (Nat → Value) → Hp → WP} (Sp : Nat → Hp → Value → Prop) (hmono : ∀ i h h' v, Hle h h' → Sp i h v → Sp i h' v)
    (hS : ∀ t w, S0 w → S [] t h w)
    (hstep : ∀ i d st, l[i]? = some (d, st) → ∀ ls h' t (K' : Value → WP), i ∉ ls → (∀ j ∈ d, j ∈ ls) → Hle h h' → (∀ j ∈ ls, Sp j h' (t j)) → (∀ h2 v, Hle h' h2 → Sp i h2 v → G (S (i :: ls) (updT t i v) h2) (K' v)) → G (S ls t h') (st t K'))
    (hk : ∀ h' t ls, Hle h h' → (∀ i, i < l.length → i ∈ ls) → (∀ i, i < l.length → Sp i h' (t i)) → G (S ls t h') (K t)) : G S0 (AllO l K) := ⟨fun w s => by
  refine ⟨fun ls t w => ∃ h', Hle h h' ∧ (∀ i ∈ ls, Sp i h' (t i)) ∧ S ls t h' w, fun t => ⟨h, Hle.refl h, (fun i hi => (by cases hi)), hS t w s⟩, ?_⟩
  rintro ls t w ⟨h', hle, hsp, s⟩
  refine ⟨fun hall => (hk h' t ls hle hall fun i hi => hsp i (hall i hi)).run w s, fun i d st hi hni hd => ?_⟩
  refine (hstep i d st hi ls h' t _ hni hd hle hsp fun h2 v hle2 hv => ⟨fun w2 s2 => ⟨h2, hle.trans hle2, fun j hj => ?_, s2⟩⟩).run w s
  unfold updT
  by_cases e : j = i
  · subst e; simpa using hv
  · rw [beq_ne e]
    rcases List.mem_cons.1 hj with e' | hj
    · exact absurd e' e
    · exact hmono _ _ _ _ hle2 (hsp j hj)⟩
theorem updT_ne {t : Nat → Value} {i j : Nat} {v : Value} (h : j ≠ i) : updT t i v j = t j := by unfold updT; rw [beq_ne h]; rfl
theorem updT_eq {t : Nat → Value} {i : Nat} {v : Value} : updT t i v i = v := by unfold updT; simp
def its : Option (Nat × FmH) → List Itm
  | none => []
  | some c => [.blk c.1 [slv c.2.1, slv c.2.2] 28]
structure CI (ls : List Nat) (t : Nat → Value) (a s : Nat) (Q : FmH → Prop) (c : Option (Nat × FmH)) : Prop where
  yes : a ∈ ls → ∃ b x, c = some (b, x) ∧ t a = ptr b 0 ∧ (s ∈ ls → Q x)
  no : a ∉ ls → c = none
  ord : s ∈ ls → a ∈ ls
theorem CI.keep {ls : List Nat} {t : Nat → Value} {a s i : Nat} {v : Value} {Q Q' : FmH → Prop} {c : Option (Nat × FmH)} (h : CI ls t a s Q c) (ha : i ≠ a) (hs : i ≠ s) (hq : ∀ x, Q x → Q' x) : CI (i :: ls) (updT t i v) a s Q' c :=
  ⟨fun hm => by
    obtain ⟨b, x, h1, h2, h3⟩ := h.yes ((List.mem_cons.1 hm).resolve_left (Ne.symm ha))
    exact ⟨b, x, h1, by rw [updT_ne (Ne.symm ha)]; exact h2, fun hm => hq _ (h3 ((List.mem_cons.1 hm).resolve_left (Ne.symm hs)))⟩, fun hm => h.no fun h => hm (List.mem_cons_of_mem _ h), fun hm => List.mem_cons_of_mem _ (h.ord ((List.mem_cons.1 hm).resolve_left (Ne.symm hs)))⟩
theorem CI.new {ls : List Nat} {t : Nat → Value} {a s b : Nat} {x : FmH} {Q Q' : FmH → Prop} {c : Option (Nat × FmH)} (h : CI ls t a s Q c) (ha : a ∉ ls) (hne : a ≠ s) : CI (a :: ls) (updT t a (ptr b 0)) a s Q' (some (b, x)) :=
  ⟨fun _ => ⟨b, x, rfl, updT_eq, fun hm => absurd (h.ord ((List.mem_cons.1 hm).resolve_left (Ne.symm hne))) ha⟩, fun hm => absurd (List.mem_cons_self ..) hm, fun hm => List.mem_cons_self ..⟩
theorem CI.put {ls : List Nat} {t : Nat → Value} {a s b : Nat} {x : FmH} {v : Value} {Q' : FmH → Prop} (ha : a ∈ ls) (hne : a ≠ s) (ht : t a = ptr b 0) (hq : Q' x) : CI (s :: ls) (updT t s v) a s Q' (some (b, x)) :=
  ⟨fun _ => ⟨b, x, rfl, by rw [updT_ne hne]; exact ht, fun _ => hq⟩, fun hm => absurd (List.mem_cons_of_mem _ ha) hm, fun _ => List.mem_cons_of_mem _ ha⟩
/-- Two forms, each put into a block of its own. -/
theorem two_ok {pre : List (List Nat × StepV)} {n : Nat} {d1 d2 : List Nat} {v1 v2 : Nat} {K : (Nat → Value) → WP} (hn : pre.length = n) (Sp : Nat → Hp → Value → Prop) (Q1 Q2 : Fm → Prop) (hmono : ∀ i h h' v, Hle h h' → Sp i h v → Sp i h' v)
    (e1 : ∀ h v, Sp v1 h v → ∃ x f, v = vF x ∧ FmR h x f ∧ Q1 f) (e2 : ∀ h v, Sp v2 h v → ∃ x f, v = vF x ∧ FmR h x f ∧ Q2 f)
    (bd : v1 < n ∧ v2 < n)
    (m1 : n ∈ d1 ∧ n + 1 ∈ d1 ∧ v1 ∈ d1) (m2 : n ∈ d2 ∧ n + 1 ∈ d2 ∧ v2 ∈ d2)
    (hstep : ∀ i d st, i < n → pre[i]? = some (d, st) → ∀ h' t (K' : Value → WP) (L' : List Itm), (∀ x ∈ L, x ∈ L') → Hle h h' → (∀ j ∈ d, j < n → Sp j h' (t j)) → (∀ h2 v, Hle h' h2 → Sp i h2 v → Gs w0 h0 h2 L' (K' v)) → Gs w0 h0 h' L' (st t K'))
    (hk : ∀ h' t c1 c2 x1 x2 f1 f2, Hle h h' → t n = ptr c1 0 → t (n + 1) = ptr c2 0 → FmR h' x1 f1 → FmR h' x2 f2 → Q1 f1 → Q2 f2 →
      Gs w0 h0 h' (.blk c1 [slv x1.1, slv x1.2] 28 :: .blk c2 [slv x2.1, slv x2.2] 28 :: L) (K t)) :
    Gs w0 h0 h L (AllO (pre ++ [([], fun _ K => Do Tryz.prog (V (Instr.alloc 28 true (.tuple #[]))) K), ([], fun _ K => Do Tryz.prog (V (Instr.alloc 28 true (.tuple #[]))) K), (d1, fun t K => Do Tryz.prog (U (Instr.storeAt 28 (t n) (t v1))) K), (d2, fun t K => Do Tryz.prog (U (Instr.storeAt 28 (t (n + 1)) (t v2))) K)]) K) := by
  subst hn
  refine G.allO2 (h := h) (S := fun ls t h' w => ∃ c1 c2, CI ls t pre.length (pre.length + 2) (fun x => ∃ f, FmR h' x f ∧ Q1 f) c1 ∧ CI ls t (pre.length + 1) (pre.length + 3) (fun x => ∃ f, FmR h' x f ∧ Q2 f) c2 ∧ St w0 h0 h' (its c1 ++ (its c2 ++ (L))) w)
    (fun i h v => i < pre.length → Sp i h v) (fun i h h' v hle hs hi => hmono _ _ _ _ hle (hs hi)) ?_ ?_ ?_
  · intro t w s
    exact ⟨none, none, ⟨fun h => ((by cases h)), fun _ => rfl, fun h => ((by cases h))⟩, ⟨fun h => ((by cases h)), fun _ => rfl, fun h => ((by cases h))⟩, s⟩
  · intro i d st hi ls h' t K' hni hd hle hsp hK
    refine ⟨fun w hw => ?_⟩
    obtain ⟨c1, c2, i1, i2, s⟩ := hw
    refine G.run ?_ w s
    clear s
    clear w
    by_cases hlt : i < pre.length
    · rw [List.getElem?_append_left hlt] at hi
      refine hstep i d st hlt hi h' t K' _ (fun x hx => by simp [hx]) hle (fun j hj hjn => hsp j (hd j hj) hjn) fun h2 v le2 hv => ⟨fun w2 s2 => ?_⟩
      refine (hK h2 v le2 fun _ => hv).run w2 ⟨c1, c2, i1.keep (by omega) (by omega) fun x ⟨f, a, b⟩ => ⟨f, a.mono le2, b⟩, i2.keep (by omega) (by omega) fun x ⟨f, a, b⟩ => ⟨f, a.mono le2, b⟩, s2⟩
    · rw [List.getElem?_append_right (by omega)] at hi
      have hq : ∀ (Q : Fm → Prop) (x : FmH), (∃ f, FmR h' x f ∧ Q f) → ∃ f, FmR h' x f ∧ Q f := fun _ _ h => h
      obtain ⟨j, hj⟩ : ∃ j, i - pre.length = j := ⟨_, rfl⟩
      rw [hj] at hi
      match j, hj, hi with
      | 0, hj, hi =>
        obtain rfl : i = pre.length := by omega
        simp only [List.getElem?_cons_zero, List.getElem?_cons_succ, Option.some.injEq, Prod.mk.injEq] at hi
        obtain ⟨rfl, rfl⟩ := hi
        have hc := i1.no hni
        subst hc
        refine Gs.alloc ?_
        intro b
        refine ⟨fun w2 s2 => (hK h' (ptr b 0) (Hle.refl h') fun hh => absurd hh (by omega)).run w2 ⟨some (b, ((none, 0, 0), (none, 0, 0))), c2, i1.new hni (by omega), i2.keep (by omega) (by omega) (hq Q2), s2⟩⟩
      | 1, hj, hi =>
        obtain rfl : i = pre.length + 1 := by omega
        simp only [List.getElem?_cons_zero, List.getElem?_cons_succ, Option.some.injEq, Prod.mk.injEq] at hi
        obtain ⟨rfl, rfl⟩ := hi
        have hc := i2.no hni
        subst hc
        refine Gs.alloc ?_
        intro b
        refine ⟨fun w2 s2 => (hK h' (ptr b 0) (Hle.refl h') fun hh => absurd hh (by omega)).run w2 ⟨c1, some (b, ((none, 0, 0), (none, 0, 0))), i1.keep (by omega) (by omega) (hq Q1), i2.new hni (by omega), s2.perm (by simpa [its] using (List.perm_middle (a := Itm.blk b [slv (none, 0, 0), slv (none, 0, 0)] 28) (l₁ := its c1) (l₂ := L)).symm)⟩⟩
      | 2, hj, hi =>
        obtain rfl : i = pre.length + 2 := by omega
        simp only [List.getElem?_cons_zero, List.getElem?_cons_succ, Option.some.injEq, Prod.mk.injEq] at hi
        obtain ⟨rfl, rfl⟩ := hi
        obtain ⟨b1, x1, rfl, t1, q1⟩ := i1.yes (hd _ m1.1)
        obtain ⟨b2, x2, rfl, t2, q2⟩ := i2.yes (hd _ m1.2.1)
        obtain ⟨y, f, hv, hy, hQ⟩ := e1 h' _ (hsp _ (hd _ m1.2.2) (by omega))
        simp only [its, List.cons_append, List.nil_append]
        rw [t1, hv]
        refine Gs.store ?_
        refine ⟨fun w2 s2 => (hK h' _ (Hle.refl h') fun hh => absurd hh (by omega)).run w2 ⟨some (b1, y), some (b2, x2), CI.put (hd _ m1.1) (by omega) t1 ⟨f, hy, hQ⟩, i2.keep (by omega) (by omega) (hq Q2), s2⟩⟩
      | 3, hj, hi =>
        obtain rfl : i = pre.length + 3 := by omega
        simp only [List.getElem?_cons_zero, List.getElem?_cons_succ, Option.some.injEq, Prod.mk.injEq] at hi
        obtain ⟨rfl, rfl⟩ := hi
        obtain ⟨b1, x1, rfl, t1, q1⟩ := i1.yes (hd _ m2.1)
        obtain ⟨b2, x2, rfl, t2, q2⟩ := i2.yes (hd _ m2.2.1)
        obtain ⟨y, f, hv, hy, hQ⟩ := e2 h' _ (hsp _ (hd _ m2.2.2) (by omega))
        simp only [its, List.cons_append, List.nil_append]
        rw [t2, hv]
        refine Gs.store ?_
        refine ⟨fun w2 s2 => (hK h' _ (Hle.refl h') fun hh => absurd hh (by omega)).run w2 ⟨some (b1, x1), some (b2, y), i1.keep (by omega) (by omega) (hq Q1), CI.put (hd _ m2.2.1) (by omega) t2 ⟨f, hy, hQ⟩, s2.perm (.swap _ _ _)⟩⟩
      | k + 4, hj, hi => simp at hi
  · intro h' t ls hle hall hsp
    refine ⟨fun w hw => ?_⟩
    obtain ⟨c1, c2, i1, i2, s⟩ := hw
    simp only [List.length_append, List.length_cons, List.length_nil] at hall
    obtain ⟨b1, x1, rfl, t1, q1⟩ := i1.yes (hall _ (by omega))
    obtain ⟨b2, x2, rfl, t2, q2⟩ := i2.yes (hall _ (by omega))
    obtain ⟨f1, r1, p1⟩ := q1 (hall _ (by omega))
    obtain ⟨f2, r2, p2⟩ := q2 (hall _ (by omega))
    exact (hk h' t b1 b2 x1 x2 f1 f2 hle t1 t2 r1 r2 p1 p2).run w s
/-- The same of a list as it is printed. -/
theorem two_in {l : List (List Nat × StepV)} (n : Nat) {d1 d2 : List Nat} {v1 v2 : Nat} {K : (Nat → Value) → WP} (Sp : Nat → Hp → Value → Prop) (Q1 Q2 : Fm → Prop)
    (hl : l = l.take n ++ [([], fun _ K => Do Tryz.prog (V (Instr.alloc 28 true (.tuple #[]))) K), ([], fun _ K => Do Tryz.prog (V (Instr.alloc 28 true (.tuple #[]))) K), (d1, fun t K => Do Tryz.prog (U (Instr.storeAt 28 (t n) (t v1))) K), (d2, fun t K => Do Tryz.prog (U (Instr.storeAt 28 (t (n + 1)) (t v2))) K)])
    (hn : l.length = n + 4) (hmono : ∀ i h h' v, Hle h h' → Sp i h v → Sp i h' v)
    (e1 : ∀ h v, Sp v1 h v → ∃ x f, v = vF x ∧ FmR h x f ∧ Q1 f) (e2 : ∀ h v, Sp v2 h v → ∃ x f, v = vF x ∧ FmR h x f ∧ Q2 f)
    (bd : v1 < n ∧ v2 < n)
    (m1 : n ∈ d1 ∧ n + 1 ∈ d1 ∧ v1 ∈ d1) (m2 : n ∈ d2 ∧ n + 1 ∈ d2 ∧ v2 ∈ d2)
    (hstep : ∀ i d st, i < n → l[i]? = some (d, st) → ∀ h' t (K' : Value → WP) (L' : List Itm), (∀ x ∈ L, x ∈ L') → Hle h h' → (∀ j ∈ d, j < n → Sp j h' (t j)) → (∀ h2 v, Hle h' h2 → Sp i h2 v → Gs w0 h0 h2 L' (K' v)) → Gs w0 h0 h' L' (st t K'))
    (hk : ∀ h' t c1 c2 x1 x2 f1 f2, Hle h h' → t n = ptr c1 0 → t (n + 1) = ptr c2 0 → FmR h' x1 f1 → FmR h' x2 f2 → Q1 f1 → Q2 f2 →
      Gs w0 h0 h' (.blk c1 [slv x1.1, slv x1.2] 28 :: .blk c2 [slv x2.1, slv x2.2] 28 :: L) (K t)) :
    Gs w0 h0 h L (AllO l K) := by
  rw [hl]
  have ht : ∀ i d st, i < n → (l.take n)[i]? = some (d, st) → l[i]? = some (d, st) := fun i d st hi h => by rwa [List.getElem?_take, if_pos hi] at h
  exact two_ok (by rw [List.length_take]; omega) Sp Q1 Q2 hmono e1 e2 bd m1 m2 (fun i d st hi h => hstep i d st hi (ht i d st hi h)) hk
/-- Three forms, each put into a block of its own. -/
theorem three_ok {pre : List (List Nat × StepV)} {n : Nat} {d1 d2 d3 : List Nat} {v1 v2 v3 : Nat} {K : (Nat → Value) → WP} (hn : pre.length = n) (Sp : Nat → Hp → Value → Prop) (Q1 Q2 Q3 : Fm → Prop) (hmono : ∀ i h h' v, Hle h h' → Sp i h v → Sp i h' v)
    (e1 : ∀ h v, Sp v1 h v → ∃ x f, v = vF x ∧ FmR h x f ∧ Q1 f) (e2 : ∀ h v, Sp v2 h v → ∃ x f, v = vF x ∧ FmR h x f ∧ Q2 f) (e3 : ∀ h v, Sp v3 h v → ∃ x f, v = vF x ∧ FmR h x f ∧ Q3 f)
    (bd : v1 < n ∧ v2 < n ∧ v3 < n)
    (m1 : n ∈ d1 ∧ n + 1 ∈ d1 ∧ n + 2 ∈ d1 ∧ v1 ∈ d1) (m2 : n ∈ d2 ∧ n + 1 ∈ d2 ∧ n + 2 ∈ d2 ∧ v2 ∈ d2) (m3 : n ∈ d3 ∧ n + 1 ∈ d3 ∧ n + 2 ∈ d3 ∧ v3 ∈ d3)
    (hstep : ∀ i d st, i < n → pre[i]? = some (d, st) → ∀ h' t (K' : Value → WP) (L' : List Itm), (∀ x ∈ L, x ∈ L') → Hle h h' → (∀ j ∈ d, j < n → Sp j h' (t j)) → (∀ h2 v, Hle h' h2 → Sp i h2 v → Gs w0 h0 h2 L' (K' v)) → Gs w0 h0 h' L' (st t K'))
    (hk : ∀ h' t c1 c2 c3 x1 x2 x3 f1 f2 f3, Hle h h' → t n = ptr c1 0 → t (n + 1) = ptr c2 0 → t (n + 2) = ptr c3 0 → FmR h' x1 f1 → FmR h' x2 f2 → FmR h' x3 f3 → Q1 f1 → Q2 f2 → Q3 f3 →
      Gs w0 h0 h' (.blk c1 [slv x1.1, slv x1.2] 28 :: .blk c2 [slv x2.1, slv x2.2] 28 :: .blk c3 [slv x3.1, slv x3.2] 28 :: L) (K t)) :
    Gs w0 h0 h L (AllO (pre ++ [([], fun _ K => Do Tryz.prog (V (Instr.alloc 28 true (.tuple #[]))) K), ([], fun _ K => Do Tryz.prog (V (Instr.alloc 28 true (.tuple #[]))) K), ([], fun _ K => Do Tryz.prog (V (Instr.alloc 28 true (.tuple #[]))) K), (d1, fun t K => Do Tryz.prog (U (Instr.storeAt 28 (t n) (t v1))) K), (d2, fun t K => Do Tryz.prog (U (Instr.storeAt 28 (t (n + 1)) (t v2))) K), (d3, fun t K => Do Tryz.prog (U (Instr.storeAt 28 (t (n + 2)) (t v3))) K)]) K) := by
  subst hn
  refine G.allO2 (h := h) (S := fun ls t h' w => ∃ c1 c2 c3, CI ls t pre.length (pre.length + 3) (fun x => ∃ f, FmR h' x f ∧ Q1 f) c1 ∧ CI ls t (pre.length + 1) (pre.length + 4) (fun x => ∃ f, FmR h' x f ∧ Q2 f) c2 ∧ CI ls t (pre.length + 2) (pre.length + 5) (fun x => ∃ f, FmR h' x f ∧ Q3 f) c3 ∧ St w0 h0 h' (its c1 ++ (its c2 ++ (its c3 ++ (L)))) w)
    (fun i h v => i < pre.length → Sp i h v) (fun i h h' v hle hs hi => hmono _ _ _ _ hle (hs hi)) ?_ ?_ ?_
  · intro t w s
    exact ⟨none, none, none, ⟨fun h => ((by cases h)), fun _ => rfl, fun h => ((by cases h))⟩, ⟨fun h => ((by cases h)), fun _ => rfl, fun h => ((by cases h))⟩, ⟨fun h => ((by cases h)), fun _ => rfl, fun h => ((by cases h))⟩, s⟩
  · intro i d st hi ls h' t K' hni hd hle hsp hK
    refine ⟨fun w hw => ?_⟩
    obtain ⟨c1, c2, c3, i1, i2, i3, s⟩ := hw
    refine G.run ?_ w s
    clear s
    clear w
    by_cases hlt : i < pre.length
    · rw [List.getElem?_append_left hlt] at hi
      refine hstep i d st hlt hi h' t K' _ (fun x hx => by simp [hx]) hle (fun j hj hjn => hsp j (hd j hj) hjn) fun h2 v le2 hv => ⟨fun w2 s2 => ?_⟩
      refine (hK h2 v le2 fun _ => hv).run w2 ⟨c1, c2, c3, i1.keep (by omega) (by omega) fun x ⟨f, a, b⟩ => ⟨f, a.mono le2, b⟩, i2.keep (by omega) (by omega) fun x ⟨f, a, b⟩ => ⟨f, a.mono le2, b⟩, i3.keep (by omega) (by omega) fun x ⟨f, a, b⟩ => ⟨f, a.mono le2, b⟩, s2⟩
    · rw [List.getElem?_append_right (by omega)] at hi
      have hq : ∀ (Q : Fm → Prop) (x : FmH), (∃ f, FmR h' x f ∧ Q f) → ∃ f, FmR h' x f ∧ Q f := fun _ _ h => h
      obtain ⟨j, hj⟩ : ∃ j, i - pre.length = j := ⟨_, rfl⟩
      rw [hj] at hi
      match j, hj, hi with
      | 0, hj, hi =>
        obtain rfl : i = pre.length := by omega
        simp only [List.getElem?_cons_zero, List.getElem?_cons_succ, Option.some.injEq, Prod.mk.injEq] at hi
        obtain ⟨rfl, rfl⟩ := hi
        have hc := i1.no hni
        subst hc
        refine Gs.alloc ?_
        intro b
        refine ⟨fun w2 s2 => (hK h' (ptr b 0) (Hle.refl h') fun hh => absurd hh (by omega)).run w2 ⟨some (b, ((none, 0, 0), (none, 0, 0))), c2, c3, i1.new hni (by omega), i2.keep (by omega) (by omega) (hq Q2), i3.keep (by omega) (by omega) (hq Q3), s2⟩⟩
      | 1, hj, hi =>
        obtain rfl : i = pre.length + 1 := by omega
        simp only [List.getElem?_cons_zero, List.getElem?_cons_succ, Option.some.injEq, Prod.mk.injEq] at hi
        obtain ⟨rfl, rfl⟩ := hi
        have hc := i2.no hni
        subst hc
        refine Gs.alloc ?_
        intro b
        refine ⟨fun w2 s2 => (hK h' (ptr b 0) (Hle.refl h') fun hh => absurd hh (by omega)).run w2 ⟨c1, some (b, ((none, 0, 0), (none, 0, 0))), c3, i1.keep (by omega) (by omega) (hq Q1), i2.new hni (by omega), i3.keep (by omega) (by omega) (hq Q3), s2.perm (by simpa [its] using (List.perm_middle (a := Itm.blk b [slv (none, 0, 0), slv (none, 0, 0)] 28) (l₁ := its c1) (l₂ := its c3 ++ (L))).symm)⟩⟩
      | 2, hj, hi =>
        obtain rfl : i = pre.length + 2 := by omega
        simp only [List.getElem?_cons_zero, List.getElem?_cons_succ, Option.some.injEq, Prod.mk.injEq] at hi
        obtain ⟨rfl, rfl⟩ := hi
        have hc := i3.no hni
        subst hc
        refine Gs.alloc ?_
        intro b
        refine ⟨fun w2 s2 => (hK h' (ptr b 0) (Hle.refl h') fun hh => absurd hh (by omega)).run w2 ⟨c1, c2, some (b, ((none, 0, 0), (none, 0, 0))), i1.keep (by omega) (by omega) (hq Q1), i2.keep (by omega) (by omega) (hq Q2), i3.new hni (by omega), s2.perm (by simpa [its] using (List.perm_middle (a := Itm.blk b [slv (none, 0, 0), slv (none, 0, 0)] 28) (l₁ := its c1 ++ its c2) (l₂ := L)).symm)⟩⟩
      | 3, hj, hi =>
        obtain rfl : i = pre.length + 3 := by omega
        simp only [List.getElem?_cons_zero, List.getElem?_cons_succ, Option.some.injEq, Prod.mk.injEq] at hi
        obtain ⟨rfl, rfl⟩ := hi
        obtain ⟨b1, x1, rfl, t1, q1⟩ := i1.yes (hd _ m1.1)
        obtain ⟨b2, x2, rfl, t2, q2⟩ := i2.yes (hd _ m1.2.1)
        obtain ⟨b3, x3, rfl, t3, q3⟩ := i3.yes (hd _ m1.2.2.1)
        obtain ⟨y, f, hv, hy, hQ⟩ := e1 h' _ (hsp _ (hd _ m1.2.2.2) (by omega))
        simp only [its, List.cons_append, List.nil_append]
        rw [t1, hv]
        refine Gs.store ?_
        refine ⟨fun w2 s2 => (hK h' _ (Hle.refl h') fun hh => absurd hh (by omega)).run w2 ⟨some (b1, y), some (b2, x2), some (b3, x3), CI.put (hd _ m1.1) (by omega) t1 ⟨f, hy, hQ⟩, i2.keep (by omega) (by omega) (hq Q2), i3.keep (by omega) (by omega) (hq Q3), s2⟩⟩
      | 4, hj, hi =>
        obtain rfl : i = pre.length + 4 := by omega
        simp only [List.getElem?_cons_zero, List.getElem?_cons_succ, Option.some.injEq, Prod.mk.injEq] at hi
        obtain ⟨rfl, rfl⟩ := hi
        obtain ⟨b1, x1, rfl, t1, q1⟩ := i1.yes (hd _ m2.1)
        obtain ⟨b2, x2, rfl, t2, q2⟩ := i2.yes (hd _ m2.2.1)
        obtain ⟨b3, x3, rfl, t3, q3⟩ := i3.yes (hd _ m2.2.2.1)
        obtain ⟨y, f, hv, hy, hQ⟩ := e2 h' _ (hsp _ (hd _ m2.2.2.2) (by omega))
        simp only [its, List.cons_append, List.nil_append]
        rw [t2, hv]
        refine Gs.store ?_
        refine ⟨fun w2 s2 => (hK h' _ (Hle.refl h') fun hh => absurd hh (by omega)).run w2 ⟨some (b1, x1), some (b2, y), some (b3, x3), i1.keep (by omega) (by omega) (hq Q1), CI.put (hd _ m2.2.1) (by omega) t2 ⟨f, hy, hQ⟩, i3.keep (by omega) (by omega) (hq Q3), s2.perm (.swap _ _ _)⟩⟩
      | 5, hj, hi =>
        obtain rfl : i = pre.length + 5 := by omega
        simp only [List.getElem?_cons_zero, List.getElem?_cons_succ, Option.some.injEq, Prod.mk.injEq] at hi
        obtain ⟨rfl, rfl⟩ := hi
        obtain ⟨b1, x1, rfl, t1, q1⟩ := i1.yes (hd _ m3.1)
        obtain ⟨b2, x2, rfl, t2, q2⟩ := i2.yes (hd _ m3.2.1)
        obtain ⟨b3, x3, rfl, t3, q3⟩ := i3.yes (hd _ m3.2.2.1)
        obtain ⟨y, f, hv, hy, hQ⟩ := e3 h' _ (hsp _ (hd _ m3.2.2.2) (by omega))
        simp only [its, List.cons_append, List.nil_append]
        rw [t3, hv]
        refine Gs.store ?_
        refine ⟨fun w2 s2 => (hK h' _ (Hle.refl h') fun hh => absurd hh (by omega)).run w2 ⟨some (b1, x1), some (b2, x2), some (b3, y), i1.keep (by omega) (by omega) (hq Q1), i2.keep (by omega) (by omega) (hq Q2), CI.put (hd _ m3.2.2.1) (by omega) t3 ⟨f, hy, hQ⟩, s2.perm (((List.Perm.swap _ _ _)).trans ((List.Perm.swap _ _ _).cons _))⟩⟩
      | k + 6, hj, hi => simp at hi
  · intro h' t ls hle hall hsp
    refine ⟨fun w hw => ?_⟩
    obtain ⟨c1, c2, c3, i1, i2, i3, s⟩ := hw
    simp only [List.length_append, List.length_cons, List.length_nil] at hall
    obtain ⟨b1, x1, rfl, t1, q1⟩ := i1.yes (hall _ (by omega))
    obtain ⟨b2, x2, rfl, t2, q2⟩ := i2.yes (hall _ (by omega))
    obtain ⟨b3, x3, rfl, t3, q3⟩ := i3.yes (hall _ (by omega))
    obtain ⟨f1, r1, p1⟩ := q1 (hall _ (by omega))
    obtain ⟨f2, r2, p2⟩ := q2 (hall _ (by omega))
    obtain ⟨f3, r3, p3⟩ := q3 (hall _ (by omega))
    exact (hk h' t b1 b2 b3 x1 x2 x3 f1 f2 f3 hle t1 t2 t3 r1 r2 r3 p1 p2 p3).run w s
/-- The same of a list as it is printed. -/
theorem three_in {l : List (List Nat × StepV)} (n : Nat) {d1 d2 d3 : List Nat} {v1 v2 v3 : Nat} {K : (Nat → Value) → WP} (Sp : Nat → Hp → Value → Prop) (Q1 Q2 Q3 : Fm → Prop)
    (hl : l = l.take n ++ [([], fun _ K => Do Tryz.prog (V (Instr.alloc 28 true (.tuple #[]))) K), ([], fun _ K => Do Tryz.prog (V (Instr.alloc 28 true (.tuple #[]))) K), ([], fun _ K => Do Tryz.prog (V (Instr.alloc 28 true (.tuple #[]))) K), (d1, fun t K => Do Tryz.prog (U (Instr.storeAt 28 (t n) (t v1))) K), (d2, fun t K => Do Tryz.prog (U (Instr.storeAt 28 (t (n + 1)) (t v2))) K), (d3, fun t K => Do Tryz.prog (U (Instr.storeAt 28 (t (n + 2)) (t v3))) K)])
    (hn : l.length = n + 6) (hmono : ∀ i h h' v, Hle h h' → Sp i h v → Sp i h' v)
    (e1 : ∀ h v, Sp v1 h v → ∃ x f, v = vF x ∧ FmR h x f ∧ Q1 f) (e2 : ∀ h v, Sp v2 h v → ∃ x f, v = vF x ∧ FmR h x f ∧ Q2 f) (e3 : ∀ h v, Sp v3 h v → ∃ x f, v = vF x ∧ FmR h x f ∧ Q3 f)
    (bd : v1 < n ∧ v2 < n ∧ v3 < n)
    (m1 : n ∈ d1 ∧ n + 1 ∈ d1 ∧ n + 2 ∈ d1 ∧ v1 ∈ d1) (m2 : n ∈ d2 ∧ n + 1 ∈ d2 ∧ n + 2 ∈ d2 ∧ v2 ∈ d2) (m3 : n ∈ d3 ∧ n + 1 ∈ d3 ∧ n + 2 ∈ d3 ∧ v3 ∈ d3)
    (hstep : ∀ i d st, i < n → l[i]? = some (d, st) → ∀ h' t (K' : Value → WP) (L' : List Itm), (∀ x ∈ L, x ∈ L') → Hle h h' → (∀ j ∈ d, j < n → Sp j h' (t j)) → (∀ h2 v, Hle h' h2 → Sp i h2 v → Gs w0 h0 h2 L' (K' v)) → Gs w0 h0 h' L' (st t K'))
    (hk : ∀ h' t c1 c2 c3 x1 x2 x3 f1 f2 f3, Hle h h' → t n = ptr c1 0 → t (n + 1) = ptr c2 0 → t (n + 2) = ptr c3 0 → FmR h' x1 f1 → FmR h' x2 f2 → FmR h' x3 f3 → Q1 f1 → Q2 f2 → Q3 f3 →
      Gs w0 h0 h' (.blk c1 [slv x1.1, slv x1.2] 28 :: .blk c2 [slv x2.1, slv x2.2] 28 :: .blk c3 [slv x3.1, slv x3.2] 28 :: L) (K t)) :
    Gs w0 h0 h L (AllO l K) := by
  rw [hl]
  have ht : ∀ i d st, i < n → (l.take n)[i]? = some (d, st) → l[i]? = some (d, st) := fun i d st hi h => by rwa [List.getElem?_take, if_pos hi] at h
  exact three_ok (by rw [List.length_take]; omega) Sp Q1 Q2 Q3 hmono e1 e2 e3 bd m1 m2 m3 (fun i d st hi h => hstep i d st hi (ht i d st hi h)) hk
end Go.Proofs.YtgdochemlbjnlaaGreat
end

section
/-
  Values: the fixed examples.
-/
set_option linter.unusedVariables false
set_option linter.unusedSimpArgs false
set_option linter.unusedSectionVars false
set_option maxHeartbeats 1000000
set_option maxRecDepth 100000
namespace Go.Proofs.YtgdochemlbjnlaaGreat
open Go Go.Sk Go.Va Go.RowKit
open Go.Dy (strip Valid val btw validB)
variable {M : Go.Sk.Mode}
attribute [local irreducible] Go.Sk.vCall Go.Sk.Ct
def SF (f : Fm) (h : Hp) (v : Value) : Prop := ∃ x, v = vF x ∧ FmR h x f
def SL (f : Fm) (h : Hp) (v : Value) : Prop := ∃ q : SlH, v = slv q ∧ RdF h (slv q) eFH 2 FmR [f]
theorem SF.mono {f : Fm} {h h' : Hp} {v : Value} (hle : Hle h h') (hs : SF f h v) : SF f h' v := by obtain ⟨x, h1, h2⟩ := hs; exact ⟨x, h1, h2.mono hle⟩
theorem SL.mono {f : Fm} {h h' : Hp} {v : Value} (hle : Hle h h') (hs : SL f h v) : SL f h' v := by obtain ⟨x, h1, h2⟩ := hs; exact ⟨x, h1, h2.mono hle⟩
section
variable {w0 : World} {h0 h : Hp} {L : List Itm} {K : Value → WP}
theorem step_load {zb : Nat} {x : FmH} {f : Fm} (hm : .blk zb [slv x.1, slv x.2] 28 ∈ L) (hx : FmR h x f) (hk : ∀ h' v, Hle h h' → SF f h' v → Gs w0 h0 h' L (K v)) : Gs w0 h0 h L (Do Tryz.prog (V (Instr.loadAt 28 (ptr zb 0))) K) := by
  haveI : Blk L zb [slv x.1, slv x.2] 28 := ⟨hm⟩
  refine G.step ?_
  exact hk h _ (Hle.refl h) ⟨x, rfl, hx⟩
theorem step_sl {f : Fm} {u : Value} (hu : SF f h u) (hk : ∀ h' v, Hle h h' → SL f h' v → Gs w0 h0 h' L (K v)) : Gs w0 h0 h L (Do Tryz.prog (vBuildSlice 26 1 [(0, u)]) K) := by
  obtain ⟨x, rfl, hx⟩ := hu
  refine Gs.buildSlice (out := [slv x.1, slv x.2]) (by decide) ?_
  intro b
  refine sl1 hx ?_
  intro h1 le1 r1
  exact hk h1 _ le1 ⟨_, rfl, r1⟩
theorem step_form {f g : Fm} {u v : Value} (hu : SL f h u) (hv : SL g h v) (hk : ∀ h' v, Hle h h' → SF (.mk [f] [g]) h' v → Gs w0 h0 h' L (K v)) : Gs w0 h0 h L (Do Tryz.prog (vCall (.func (.func 25) #[] ⟨[]⟩) [u, v]) K) := by
  obtain ⟨a, rfl, ha⟩ := hu
  obtain ⟨b, rfl, hb⟩ := hv
  refine form_call a b ?_
  exact hk h _ (Hle.refl h) ⟨(a, b), rfl, FmR_iff.2 ⟨ha, hb⟩⟩
end
/-- What each step of the region makes. -/
def sanS : Nat → Hp → Value → Prop
  | 0 => SF Va.zero | 1 => SL Va.zero | 2 => SF Va.zero | 3 => SL Va.zero | 4 => SF star
  | 5 => SF Va.zero | 6 => SL Va.zero | 7 => SF Va.one | 8 => SL Va.one | 9 => SF half
  | 10 => SF Va.one | 11 => SL Va.one | 12 => SF less | 13 => SL less | 14 => SF hot
  | _ => fun _ _ => True
theorem sanS_mono : ∀ (i : Nat) (h h' : Hp) (v : Value), Hle h h' → sanS i h v → sanS i h' v
  | 0, _, _, _, l, s => SF.mono l s | 1, _, _, _, l, s => SL.mono l s | 2, _, _, _, l, s => SF.mono l s | 3, _, _, _, l, s => SL.mono l s | 4, _, _, _, l, s => SF.mono l s
  | 5, _, _, _, l, s => SF.mono l s | 6, _, _, _, l, s => SL.mono l s | 7, _, _, _, l, s => SF.mono l s | 8, _, _, _, l, s => SL.mono l s | 9, _, _, _, l, s => SF.mono l s
  | 10, _, _, _, l, s => SF.mono l s | 11, _, _, _, l, s => SL.mono l s | 12, _, _, _, l, s => SF.mono l s | 13, _, _, _, l, s => SL.mono l s | 14, _, _, _, l, s => SF.mono l s
  | _ + 15, _, _, _, _, _ => trivial
/-- What has grown frozen may be forgotten. -/
theorem Gs.weak {w0 : World} {h0 h h' : Hp} {L : List Itm} {X : WP} (h00 : Hle h0 h) (hle : Hle h h') (hk : Gs w0 h0 h L X) : Gs w0 h0 h' L X := ⟨fun w s => hk.run w
  { below := s.below, up := h00, frozen := hle.trans s.frozen, apart := s.apart, drawn := s.drawn
    old := fun k hk => by
      have := s.old k hk
      cases hh : h0 k with
      | some o => exact h00 k o hh
      | none =>
        cases hq : h k with
        | none => rfl
        | some o => rw [hh, hle k o hq] at this; cases this
    items := fun it hi => ⟨(s.items it hi).1, fun b hb => ⟨((s.items it hi).2 b hb).1, by
      have := ((s.items it hi).2 b hb).2
      cases hh : h b with
      | none => rfl
      | some o => rw [hle b o hh] at this; cases this⟩⟩ }⟩
theorem OfP.yes {h : Hp} {n : Int} {e : Nat} {v : Value} (ho : OfP h n e v) (hs : sz (ff (val n e)) ≤ 2000) : ∃ y : FmH, v = .tuple #[vF y, I 0] ∧ FmR h y (ff (val n e)) := by
  rcases ho with ⟨_, h⟩ | ⟨h, _⟩
  · exact h
  · omega
theorem OfP.big {h : Hp} {n : Int} {e : Nat} {v : Value} (ho : OfP h n e v) (hs : 2000 < sz (ff (val n e))) : v = .tuple #[vF ((none, 0, 0), (none, 0, 0)), I 2] := by
  rcases ho with ⟨h, _⟩ | ⟨_, h⟩
  · omega
  · exact h
theorem num_at (A n : Int) (e : Nat) (hA : Rg A) (hn : nu A = n) (he : ex A = e) (f : Fm) (hf : canon f = ff A) (x : FmH) (h : Hp) (hx : FmR h x f) (hs : sz f ≤ 20000) : Ct Tryz.prog 19 [vF x] h (fun _ v => v = .tuple #[Fr2 n e, .bool true]) := by
  have := Number_ff (M := M) A hA f hf x h hx hs
  rw [hn, he] at this
  exact this
theorem num_starC (x : FmH) (h : Hp) (hx : FmR h x star) : Ct Tryz.prog 19 [vF x] h (fun _ v => v = .tuple #[Fr2 0 0, .bool false]) := by
  have := Number_ok (M := M) star x h hx (by decide +kernel) (by rw [canon_star]; exact nv_star)
  rw [canon_star, num_star] at this
  exact this
theorem sanity_ok (h : Hp) : Ct Tryz.prog 4 [] h (fun _ v => v = .bool true) := by
  refine ct4 ?_
  intro w0
  unfold s4
  (repeat (first | refine G.step ?_ | (refine Gs.alloc ?_; intro _) | refine Gs.store ?_))
  rename_i zb
  refine Gs.buildSlice (out := [.slice none 0 0, .slice none 0 0]) (by decide) ?_
  intro b1
  refine sl1 (x := ((none, 0, 0), (none, 0, 0))) (FmR.zero h) ?_
  intro h1 le1 r1
  refine form_call (some ⟨b1, 0, none⟩, 1, 1) (none, 0, 0) ?_
  (repeat (first | refine G.step ?_ | (refine Gs.alloc ?_; intro _) | refine Gs.store ?_))
  rename_i ob
  refine Gs.buildSlice (out := [.slice none 0 0, .slice none 0 0]) (by decide) ?_
  intro b2
  refine sl1 (x := ((none, 0, 0), (none, 0, 0))) (FmR.zero h1) ?_
  intro h2 le2 r2
  refine form_call (none, 0, 0) (some ⟨b2, 0, none⟩, 1, 1) ?_
  (repeat (first | (refine Gs.alloc ?_; intro _) | refine Gs.store ?_ | refine Gs.dr ?_))
  rename_i lb
  have rz : FmR h2 ((none, 0, 0), (none, 0, 0)) Va.zero := FmR.zero h2
  have ro : FmR h2 ((some ⟨b1, 0, none⟩, 1, 1), (none, 0, 0)) Va.one := FmR_iff.2 ⟨r1.mono le2, RdF.nil _ _ _ _⟩
  have rl : FmR h2 ((none, 0, 0), (some ⟨b2, 0, none⟩, 1, 1)) less := FmR_iff.2 ⟨RdF.nil _ _ _ _, r2⟩
  refine three_in 15 sanS (· = star) (· = half) (· = hot) rfl rfl sanS_mono (v1 := 4) (v2 := 9) (v3 := 14) (fun _ _ ⟨x, a, b⟩ => ⟨x, _, a, b, rfl⟩) (fun _ _ ⟨x, a, b⟩ => ⟨x, _, a, b, rfl⟩) (fun _ _ ⟨x, a, b⟩ => ⟨x, _, a, b, rfl⟩) (by decide) (by decide) (by decide) (by decide) ?_ ?_
  · intro i d st hi hl h' t K' L' hsub le hd hK
    match i, hi, hl, hK with
    | 0, _, hl, hK => obtain ⟨rfl, rfl⟩ := Prod.mk.inj (Option.some.inj hl); exact step_load (hsub _ (by simp)) (rz.mono le) hK
    | 1, _, hl, hK => obtain ⟨rfl, rfl⟩ := Prod.mk.inj (Option.some.inj hl); exact step_sl (hd 0 (by decide) (by decide)) hK
    | 2, _, hl, hK => obtain ⟨rfl, rfl⟩ := Prod.mk.inj (Option.some.inj hl); exact step_load (hsub _ (by simp)) (rz.mono le) hK
    | 3, _, hl, hK => obtain ⟨rfl, rfl⟩ := Prod.mk.inj (Option.some.inj hl); exact step_sl (hd 2 (by decide) (by decide)) hK
    | 4, _, hl, hK => obtain ⟨rfl, rfl⟩ := Prod.mk.inj (Option.some.inj hl); exact step_form (hd 1 (by decide) (by decide)) (hd 3 (by decide) (by decide)) hK
    | 5, _, hl, hK => obtain ⟨rfl, rfl⟩ := Prod.mk.inj (Option.some.inj hl); exact step_load (hsub _ (by simp)) (rz.mono le) hK
    | 6, _, hl, hK => obtain ⟨rfl, rfl⟩ := Prod.mk.inj (Option.some.inj hl); exact step_sl (hd 5 (by decide) (by decide)) hK
    | 7, _, hl, hK => obtain ⟨rfl, rfl⟩ := Prod.mk.inj (Option.some.inj hl); exact step_load (hsub _ (by simp)) (ro.mono le) hK
    | 8, _, hl, hK => obtain ⟨rfl, rfl⟩ := Prod.mk.inj (Option.some.inj hl); exact step_sl (hd 7 (by decide) (by decide)) hK
    | 9, _, hl, hK => obtain ⟨rfl, rfl⟩ := Prod.mk.inj (Option.some.inj hl); exact step_form (hd 6 (by decide) (by decide)) (hd 8 (by decide) (by decide)) hK
    | 10, _, hl, hK => obtain ⟨rfl, rfl⟩ := Prod.mk.inj (Option.some.inj hl); exact step_load (hsub _ (by simp)) (ro.mono le) hK
    | 11, _, hl, hK => obtain ⟨rfl, rfl⟩ := Prod.mk.inj (Option.some.inj hl); exact step_sl (hd 10 (by decide) (by decide)) hK
    | 12, _, hl, hK => obtain ⟨rfl, rfl⟩ := Prod.mk.inj (Option.some.inj hl); exact step_load (hsub _ (by simp)) (rl.mono le) hK
    | 13, _, hl, hK => obtain ⟨rfl, rfl⟩ := Prod.mk.inj (Option.some.inj hl); exact step_sl (hd 12 (by decide) (by decide)) hK
    | 14, _, hl, hK => obtain ⟨rfl, rfl⟩ := Prod.mk.inj (Option.some.inj hl); exact step_form (hd 11 (by decide) (by decide)) (hd 13 (by decide) (by decide)) hK
  · intro h3 t sb hb tb xs xh xt f1 f2 f3 le3 e1 e2 e3 r3 r4 r5 q1 q2 q3
    subst q1 q2 q3
    have e2 : t 16 = ptr hb 0 := e2
    have e3 : t 17 = ptr tb 0 := e3
    have rz := rz.mono le3
    have ro := ro.mono le3
    have rl := rl.mono le3
    rw [e1, e2, e3]
    clear e1 e2 e3
    (repeat (refine G.step ?_))
    refine Gs.callv0 (num_at 536870912 1 1 ⟨by decide +kernel, by decide +kernel⟩ (by decide +kernel) (by decide +kernel) half canon_half xh h3 r4 (by decide +kernel)) ?_
    (repeat (first | refine G.step ?_ | (refine Gs.alloc ?_; intro _) | refine Gs.store ?_))
    refine Gs.callv0 (num_starC xs h3 r3) ?_
    (repeat (first | refine G.step ?_ | (refine Gs.alloc ?_; intro _) | refine Gs.store ?_))
    have v5 : Vd 5 0 := ⟨by decide, .inl rfl, by decide, by decide⟩
    have v2000 : Vd 2000 0 := ⟨by decide, .inl rfl, by decide, by decide⟩
    have s5 : sz (ff (val 5 0)) = 6 := by rw [sz_whole v5.nu.2, v5.nu.1]; rfl
    have s2000 : sz (ff (val 2000 0)) = 2001 := by rw [sz_whole v2000.nu.2, v2000.nu.1]; rfl
    refine Gs.call0 (of_ok 5 0 h3 v5) ?_
    rintro _ h4 le4 hOf
    obtain ⟨y5, rfl, r6⟩ := hOf.yes (by omega)
    (repeat (first | refine G.step ?_ | (refine Gs.alloc ?_; intro _) | refine Gs.store ?_))
    refine Gs.buildSlice (out := [.slice none 0 0, slv (some ⟨b2, 0, none⟩, 1, 1)]) (by decide) ?_
    intro b3
    refine sl1 (x := ((none, 0, 0), (some ⟨b2, 0, none⟩, 1, 1))) (rl.mono le4) ?_
    intro h5 le5 r7
    (repeat (refine G.step ?_))
    refine Gs.buildSlice (out := [slv y5.1, slv y5.2]) (by decide) ?_
    intro b4
    refine sl1 (r6.mono le5) ?_
    intro h6 le6 r8
    refine form_call (some ⟨b3, 0, none⟩, 1, 1) (some ⟨b4, 0, none⟩, 1, 1) ?_
    have rm : FmR h6 ((some ⟨b3, 0, none⟩, 1, 1), (some ⟨b4, 0, none⟩, 1, 1)) (.mk [less] [ff (val 5 0)]) := FmR_iff.2 ⟨r7.mono le6, r8⟩
    refine Gs.callv0 (num_at 0 0 0 ⟨by decide +kernel, by decide +kernel⟩ (by decide +kernel) (by decide +kernel) _ (by rw [← less_ff]; exact canon_mid (by decide) (by decide +kernel)) _ h6 rm (by simp only [sz, szs, s5, show sz less = 2 by decide +kernel]; decide)) ?_
    (repeat (first | refine G.step ?_ | (refine Gs.alloc ?_; intro _) | refine Gs.store ?_))
    refine Gs.call0 (of_ok 2000 0 h6 v2000) ?_
    rintro _ h7 le7 hOf2
    have := hOf2.big (by omega)
    subst this
    (repeat (first | refine G.step ?_ | (refine Gs.alloc ?_; intro _) | refine Gs.store ?_))
    refine Gs.callv0 (of_bad 2 1 h7 (by decide +kernel)) ?_
    (repeat (first | refine G.step ?_ | (refine Gs.alloc ?_; intro _) | refine Gs.store ?_))
    have le37 := le4.trans (le5.trans (le6.trans le7))
    have h07 : Hle h h7 := le1.trans (le2.trans (le3.trans le37))
    have rz := rz.mono le37
    have ro := ro.mono le37
    have rl := rl.mono le37
    have rs := r3.mono le37
    have rh := r4.mono le37
    have rt := r5.mono le37
    have r5f := r6.mono (le5.trans (le6.trans le7))
    refine G.jnP (fun j => j = .bool true) ?_ ?_
    · rintro _ rfl
      refine G.jk ?_; intro _
      refine G.jnP (fun j => j = .bool true) ?_ ?_
      · rintro _ rfl
        refine G.jk ?_; intro _
        refine G.jnP (fun j => j = .bool true) ?_ ?_
        · rintro _ rfl
          refine G.jk ?_; intro _
          (repeat (first | refine Gs.dr ?_ | refine Gs.qkb ?_ | refine G.gdtt ?_))
          refine Gs.callv0 (winner_ok Va.one _ 0 h7 ro (by decide +kernel)) ?_
          rw [show (if (0 : Int) = 0 then (if leq Va.one Va.zero then (1 : Int) else 0) else (if leq Va.zero Va.one then 0 else 1)) = 0 by decide +kernel]
          (repeat (first | refine G.qkp ?_ | refine Gs.qkb ?_ | refine G.gdtt ?_))
          refine Gs.callv0 (winner_ok Va.one _ 1 h7 ro (by decide +kernel)) ?_
          rw [show (if (1 : Int) = 0 then (if leq Va.one Va.zero then (1 : Int) else 0) else (if leq Va.zero Va.one then 0 else 1)) = 0 by decide +kernel]
          (repeat (first | refine G.qkp ?_ | refine Gs.qkb ?_ | refine G.gdtt ?_))
          refine Gs.callv0 (winner_ok star _ 0 h7 rs (by decide +kernel)) ?_
          rw [show (if (0 : Int) = 0 then (if leq star Va.zero then (1 : Int) else 0) else (if leq Va.zero star then 0 else 1)) = 0 by decide +kernel]
          (repeat (first | refine G.qkp ?_ | refine Gs.qkb ?_ | refine G.gdtt ?_))
          refine Gs.callv0 (winner_ok star _ 1 h7 rs (by decide +kernel)) ?_
          rw [show (if (1 : Int) = 0 then (if leq star Va.zero then (1 : Int) else 0) else (if leq Va.zero star then 0 else 1)) = 1 by decide +kernel]
          (repeat (first | refine G.qkp ?_ | refine Gs.qkb ?_ | refine G.gdtt ?_))
          refine Gs.callv0 (winner_ok Va.zero _ 0 h7 rz (by decide +kernel)) ?_
          rw [show (if (0 : Int) = 0 then (if leq Va.zero Va.zero then (1 : Int) else 0) else (if leq Va.zero Va.zero then 0 else 1)) = 1 by decide +kernel]
          (repeat (first | refine G.qkp ?_ | refine Gs.qkb ?_ | refine G.gdtt ?_))
          refine Gs.call0 (neg_ok (sz Va.one) Va.one (Nat.le_refl _) (by decide +kernel) h7 _ ro) ?_
          rintro _ h8 le8 ⟨y, rfl, ry⟩
          (repeat (refine Gs.withb ?_))
          refine Gs.callv0 (same_ok _ less y ((none, 0, 0), (some ⟨b2, 0, none⟩, 1, 1)) h8 ry (rl.mono le8) (by decide +kernel)) ?_
          exact Gs.ret (by rw [decide_eq_true (show neg Va.one = less by decide +kernel)])
        · intro k57 hk57
          (repeat (first | refine Gs.dr ?_ | refine Gs.qkb ?_))
          refine Gs.callv0 (leq_ok Va.zero Va.one _ _ h7 rz ro (by decide +kernel)) ?_
          rw [show leq Va.zero Va.one = true by decide +kernel]
          (repeat (first | refine Gs.qkb ?_ | refine G.gdtt ?_))
          refine Gs.callv0 (leq_ok Va.one Va.zero _ _ h7 ro rz (by decide +kernel)) ?_
          rw [show leq Va.one Va.zero = false by decide +kernel]
          (repeat (first | refine G.qkp ?_ | refine Gs.qkb ?_ | refine G.gdtt ?_))
          refine Gs.callv0 (leq_ok star Va.zero _ _ h7 rs rz (by decide +kernel)) ?_
          rw [show leq star Va.zero = false by decide +kernel]
          (repeat (first | refine G.qkp ?_ | refine Gs.qkb ?_ | refine G.gdtt ?_))
          refine Gs.callv0 (leq_ok Va.zero star _ _ h7 rz rs (by decide +kernel)) ?_
          rw [show leq Va.zero star = false by decide +kernel]
          (repeat (first | refine G.qkp ?_ | refine Gs.qkb ?_ | refine G.gdtt ?_))
          refine Gs.callv0 (leq_ok hot Va.one _ _ h7 rt ro (by decide +kernel)) ?_
          rw [show leq hot Va.one = false by decide +kernel]
          (repeat (first | refine G.qkp ?_ | refine Gs.qkb ?_ | refine G.gdtt ?_))
          refine Gs.callv0 (leq_ok Va.one hot _ _ h7 ro rt (by decide +kernel)) ?_
          rw [show leq Va.one hot = false by decide +kernel]
          (repeat (first | refine G.qkp ?_ | refine Gs.qkb ?_ | refine G.gdtt ?_))
          refine Gs.buildSlice (out := [slv (some ⟨b1, 0, none⟩, 1, 1), .slice none 0 0]) (by decide) ?_
          intro b5
          refine sl1 (x := ((some ⟨b1, 0, none⟩, 1, 1), (none, 0, 0))) ro ?_
          intro h8 le8 r9
          (repeat (refine Gs.withb ?_))
          refine form_call (some ⟨b5, 0, none⟩, 1, 1) (none, 0, 0) ?_
          have r10 : FmR h8 ((some ⟨b5, 0, none⟩, 1, 1), (none, 0, 0)) (.mk [Va.one] []) := FmR_iff.2 ⟨r9, RdF.nil _ _ _ _⟩
          (repeat (refine Gs.withb ?_))
          refine Gs.callv0 (leq_ok hot (.mk [Va.one] []) _ _ h8 (rt.mono le8) r10 (by decide +kernel)) ?_
          rw [show leq hot (.mk [Va.one] []) = true by decide +kernel]
          (repeat (first | refine Gs.qkb ?_ | refine G.gdtt ?_))
          refine Gs.callv0 (leq_ok hot Va.zero _ _ h8 (rt.mono le8) (rz.mono le8) (by decide +kernel)) ?_
          rw [show leq hot Va.zero = false by decide +kernel]
          (repeat (first | refine G.qkp ?_ | refine Gs.qkb ?_ | refine G.gdtt ?_))
          refine Gs.callv0 (leq_ok Va.zero hot _ _ h8 (rz.mono le8) (rt.mono le8) (by decide +kernel)) ?_
          rw [show leq Va.zero hot = false by decide +kernel]
          (repeat (refine G.qkp ?_))
          exact Gs.weak h07 le8 (hk57 _ rfl)
      · intro k56 hk56
        (repeat (first | refine G.step ?_ | refine G.gdtt ?_))
        refine Gs.callv0 (size_ok 6 (ff (val 5 0)) (by omega) (by decide) h7 y5 r5f) ?_
        rw [s5]
        (repeat (refine G.step ?_))
        exact hk56 _ rfl
    · intro k55 hk55
      (repeat (refine G.step ?_))
      refine Gs.callv0 (print_ok Va.zero ((none, 0, 0), (none, 0, 0)) h7 rz (by decide +kernel)) ?_
      rw [show pr Va.zero = [123, 124, 125] by decide +kernel]
      (repeat (first | refine G.step ?_ | refine G.gdtt ?_))
      refine Gs.callv0 (print_ok Va.one ((some ⟨b1, 0, none⟩, 1, 1), (none, 0, 0)) h7 ro (by decide +kernel)) ?_
      rw [show pr Va.one = [123, 123, 124, 125, 124, 125] by decide +kernel]
      (repeat (first | refine G.step ?_ | refine G.gdtt ?_))
      refine Gs.callv0 (print_ok half xh h7 rh (by decide +kernel)) ?_
      rw [show pr half = [123, 123, 124, 125, 124, 123, 123, 124, 125, 124, 125, 125] by decide +kernel]
      (repeat (first | refine G.step ?_ | refine G.gdtt ?_))
      refine Gs.call0 (add_ok (sz star + sz star) star star (Nat.le_refl _) (by decide +kernel) h7 xs xs rs rs) ?_
      rintro _ h8 le8 ⟨z, rfl, rz2⟩
      refine Gs.call0 (canon_okC (add star star) z h8 rz2 (by decide +kernel)) ?_
      rintro _ h9 le9 ⟨y, rfl, ry⟩
      rw [canon_ss] at ry
      refine Gs.callv0 (print_ok Va.zero y h9 ry (by decide +kernel)) ?_
      rw [show pr Va.zero = [123, 124, 125] by decide +kernel]
      (repeat (refine G.step ?_))
      exact Gs.weak h07 (le8.trans le9) (hk55 _ (by rw [decide_eq_true rfl]))
end Go.Proofs.YtgdochemlbjnlaaGreat
end

