/-
  Lemmas for the proof of the statement of this claim: a part of the road, no statement of its own. Conditions: those that each lemma names.
-/
import Derived.Test.YtgdochemlbjnlaaGreatVe
import Derived.Test.YtgdochemlbjnlaaGreatVm
import Derived.Test.YtgdochemlbjnlaaGreatVd
section
/-
  Values: the reference's order, negatives and sums.
-/
set_option linter.unusedVariables false
set_option linter.unusedSimpArgs false
set_option linter.unusedSectionVars false
set_option maxHeartbeats 2000000
set_option maxRecDepth 100000
namespace Go.Proofs.YtgdochemlbjnlaaGreat
open Go Go.Sk Go.Va Go.RowKit
variable {M : Go.Sk.Mode}
attribute [local irreducible] Go.Sk.vCall Go.Sk.Ct
theorem rleq_ok : ∀ (n : Nat) (f g : Fm), sz f + sz g ≤ n → n ≤ 100000 → ∀ (h : Hp) (x y : FmH), FmR h x f → FmR h y g → Ct Tryz.prog 9 [vF x, vF y] h (fun _ v => v = .bool (leq f g)) := by
  intro n
  induction n with
  | zero => intro f g hf; have := sz_pos f; omega
  | succ n ih =>
    intro f g hf hn h x y hx hy
    have hl := lenL f
    have hr := lenR g
    have heq := leq_eq f g
    refine ct9 ?_
    intro w0
    unfold s9
    (repeat (refine Gs.box ?_; intro _))
    rename_i ab bb
    refine Gs.lp (β := Nat) (fun k => I k) (fun _ => h) (fun _ => [.blk bb [slv y.1, slv y.2] 28, .blk ab [slv x.1, slv x.2] 28]) (fun k => k ≤ f.L.length ∧ (f.L.take k).all (fun z => !leq g z) = true) (fun k => f.L.length - k) 0 rfl ⟨Nat.zero_le _, by simp⟩ (fun _ s => s) ?_
    rintro k ⟨hk, hall⟩ cont hc
    (repeat (first | refine G.step ?_ | (refine G.jk ?_; intro _)))
    refine Gs.lenF hx.l (by omega) ?_
    (repeat (refine G.step ?_))
    refine G.ifd ?_ ?_ <;> intro hlt
    · have h1 : k < f.L.length := by omega
      have hm1 : f.L[k] ∈ f.L := List.getElem_mem h1
      have hs1 := sz_L hm1
      have t1 := List.take_succ_eq_append_getElem h1
      (repeat (first | refine Gs.dr ?_ | refine G.qkp ?_ | refine Gs.qkb ?_))
      refine Gs.qindexF hx.l h1 ?_
      intro b1 o1 x1 hp1 hx1
      refine Gs.qloadE hp1 ?_
      refine Gs.callv0 (ih g f.L[k] (by omega) (by omega) h y x1 hy hx1) ?_
      refine G.ifb ?_ ?_ <;> intro hb
      · refine Gs.ret ?_
        rw [heq]
        have : f.L.all (fun z => !leq g z) = false := List.all_eq_false.2 ⟨_, hm1, by simp [hb]⟩
        rw [this]; rfl
      · (repeat (refine G.add (by omega) ?_))
        exact Gs.go (hc (k + 1) ⟨by omega, by rw [t1, List.all_append, hall]; simp [hb]⟩ (by omega)) (by simp)
    · have hk' : k = f.L.length := by omega
      subst hk'
      rw [List.take_length] at hall
      clear hc cont
      skip
      refine Gs.lp (β := Nat) (fun k => I k) (fun _ => h) (fun _ => [.blk bb [slv y.1, slv y.2] 28, .blk ab [slv x.1, slv x.2] 28]) (fun k => k ≤ g.R.length ∧ (g.R.take k).all (fun z => !leq z f) = true) (fun k => g.R.length - k) 0 rfl ⟨Nat.zero_le _, by simp⟩ (fun _ s => s) ?_
      rintro k ⟨hk, hall2⟩ cont hc
      (repeat (first | refine G.step ?_ | (refine G.jk ?_; intro _)))
      refine Gs.lenF hy.r (by omega) ?_
      (repeat (refine G.step ?_))
      refine G.ifd ?_ ?_ <;> intro hlt
      · have h1 : k < g.R.length := by omega
        have hm1 : g.R[k] ∈ g.R := List.getElem_mem h1
        have hs1 := sz_R hm1
        have t1 := List.take_succ_eq_append_getElem h1
        (repeat (first | refine Gs.dr ?_ | refine G.qkp ?_ | refine Gs.qkb ?_))
        refine Gs.qindexF hy.r h1 ?_
        intro b1 o1 x1 hp1 hx1
        refine Gs.qloadE hp1 ?_
        (repeat (refine Gs.qkb ?_))
        refine Gs.callv0 (ih g.R[k] f (by omega) (by omega) h x1 x hx1 hx) ?_
        refine G.ifb ?_ ?_ <;> intro hb
        · refine Gs.ret ?_
          rw [heq]
          have : g.R.all (fun z => !leq z f) = false := List.all_eq_false.2 ⟨_, hm1, by simp [hb]⟩
          rw [this, Bool.and_false]
        · (repeat (refine G.add (by omega) ?_))
          exact Gs.go (hc (k + 1) ⟨by omega, by rw [t1, List.all_append, hall2]; simp [hb]⟩ (by omega)) (by simp)
      · have hk' : k = g.R.length := by omega
        subst hk'
        rw [List.take_length] at hall2
        refine Gs.ret ?_
        rw [heq, hall, hall2]; rfl
theorem rneg_ok : ∀ (n : Nat) (f : Fm), sz f ≤ n → n ≤ 100000 → NegOk (M := M) 14 f := by
  intro n
  induction n with
  | zero => intro f hf; have := sz_pos f; omega
  | succ n ih =>
    intro f hf hn h x hx
    have hl := lenL f
    have hr := lenR f
    have hxl := hx.l
    have hxr := hx.r
    refine ct14 ?_
    intro w0
    unfold s14
    (repeat (first | refine G.step ?_ | (refine Gs.box ?_; intro _) | (refine Gs.alloc ?_; intro _) | refine Gs.store ?_))
    rename_i ab rb fb
    refine Gs.nilsl 28 2 ?_
    refine Gs.lp (β := Nat × SlH × Hp × List FmH) (fun u => I u.1) (fun u => u.2.2.1) (fun u => [.sl (slv u.2.1) 28 2 (fl eFH u.2.2.2), .blk fb [slv u.2.1, .slice none 0 0] 28, .blk rb [.slice none 0 0, .slice none 0 0] 28, .blk ab [slv x.1, slv x.2] 28]) (fun u => u.1 ≤ f.R.length ∧ Hle h u.2.2.1 ∧ All2 (FmR u.2.2.1) u.2.2.2 ((f.R.take u.1).map neg)) (fun u => f.R.length - u.1) (0, (none, 0, 0), h, []) rfl ⟨Nat.zero_le _, Hle.refl h, by simp; exact .nil⟩ (fun _ s => s) ?_
    rintro ⟨i1, q1, hh1, xs1⟩ ⟨hi, hle1, hxs1⟩ cont hc
    dsimp only at hi hle1 hxs1 hc ⊢
    have leK1 := (Hle.refl h).trans hle1
    have hlen1 : xs1.length = i1 := by rw [hxs1.len]; simp; omega
    (repeat (first | refine G.step ?_ | (refine G.jk ?_; intro _)))
    refine Gs.lenF (hxr.mono leK1) (by omega) ?_
    (repeat (refine G.step ?_))
    refine G.ifd ?_ ?_ <;> intro hlt
    · have hlt' : i1 < f.R.length := by omega
      have htake := List.take_succ_eq_append_getElem hlt'
      have hmem : f.R[i1] ∈ f.R := List.getElem_mem hlt'
      (repeat (first | refine Gs.dr ?_ | refine G.qkp ?_ | refine Gs.qkb ?_))
      refine Gs.qindexF (hxr.mono leK1) hlt' ?_
      intro b1 o1 x1 hp1 hx1
      refine Gs.qloadE hp1 ?_
      skip
      refine Gs.call0 (ih _ (by have := sz_R hmem; omega) (by omega) hh1 x1 hx1) ?_
      rintro _ h2 le2 ⟨y1, rfl, hy1⟩
      (repeat (first | refine G.withT ?_ | refine Gs.withb ?_))
      refine Gs.buildSlice (out := eFH y1) (by decide) ?_
      intro eb
      (repeat (first | refine G.withT ?_ | refine Gs.withb ?_))
      refine Gs.appendO (enc := eFH) (l := xs1) (m := [y1]) (e2 := 28) (by simp [fl]) (by simp; omega) (by simp; omega) ?_
      intro v'
      refine Gs.slH (v := v') ?_
      rintro q2 rfl
      (repeat (first | refine G.add (by omega) ?_ | refine Gs.store ?_ | refine G.qkp ?_))
      refine Gs.goS (hc (i1 + 1, q2, h2, xs1 ++ [y1]) ⟨by dsimp only; omega, hle1.trans le2, ?_⟩ (by dsimp only; omega)) (by simp)
      dsimp only
      rw [htake, List.map_append]
      exact (hxs1.monoR le2).snoc hy1
    · have hi' : i1 = f.R.length := by omega
      subst hi'
      rw [List.take_length] at hxs1
      clear hc cont hlt hi
      refine Gs.freezeE (enc := eFH) (v := slv q1) (by decide) ?_
      intro h3 le3 hfr
      have leF := leK1.trans le3
      have hL : RdF h3 (slv q1) eFH 2 FmR (f.R.map neg) := ⟨xs1, hfr, hxs1.monoR le3⟩
      skip
      refine Gs.nilsl 28 2 ?_
      refine Gs.lp (β := Nat × SlH × Hp × List FmH) (fun u => I u.1) (fun u => u.2.2.1) (fun u => [.sl (slv u.2.1) 28 2 (fl eFH u.2.2.2), .blk fb [slv q1, slv u.2.1] 28, .blk rb [.slice none 0 0, .slice none 0 0] 28, .blk ab [slv x.1, slv x.2] 28]) (fun u => u.1 ≤ f.L.length ∧ Hle h3 u.2.2.1 ∧ All2 (FmR u.2.2.1) u.2.2.2 ((f.L.take u.1).map neg)) (fun u => f.L.length - u.1) (0, (none, 0, 0), h3, []) rfl ⟨Nat.zero_le _, Hle.refl h3, by simp; exact .nil⟩ (fun _ s => s) ?_
      rintro ⟨i2, q2, hh2, xs2⟩ ⟨hi, hle2, hxs2⟩ cont hc
      dsimp only at hi hle2 hxs2 hc ⊢
      have leK2 := leF.trans hle2
      have hlen2 : xs2.length = i2 := by rw [hxs2.len]; simp; omega
      (repeat (first | refine G.step ?_ | (refine G.jk ?_; intro _)))
      refine Gs.lenF (hxl.mono leK2) (by omega) ?_
      (repeat (refine G.step ?_))
      refine G.ifd ?_ ?_ <;> intro hlt
      · have hlt' : i2 < f.L.length := by omega
        have htake := List.take_succ_eq_append_getElem hlt'
        have hmem : f.L[i2] ∈ f.L := List.getElem_mem hlt'
        (repeat (first | refine Gs.dr ?_ | refine G.qkp ?_ | refine Gs.qkb ?_))
        refine Gs.qindexF (hxl.mono leK2) hlt' ?_
        intro b1 o1 x1 hp1 hx1
        refine Gs.qloadE hp1 ?_
        skip
        refine Gs.call0 (ih _ (by have := sz_L hmem; omega) (by omega) hh2 x1 hx1) ?_
        rintro _ h2 le2 ⟨y1, rfl, hy1⟩
        (repeat (first | refine G.withT ?_ | refine Gs.withb ?_))
        refine Gs.buildSlice (out := eFH y1) (by decide) ?_
        intro eb
        (repeat (first | refine G.withT ?_ | refine Gs.withb ?_))
        refine Gs.appendO (enc := eFH) (l := xs2) (m := [y1]) (e2 := 28) (by simp [fl]) (by simp; omega) (by simp; omega) ?_
        intro v'
        refine Gs.slH (v := v') ?_
        rintro q2 rfl
        (repeat (first | refine G.add (by omega) ?_ | refine Gs.store ?_ | refine G.qkp ?_))
        refine Gs.goS (hc (i2 + 1, q2, h2, xs2 ++ [y1]) ⟨by dsimp only; omega, hle2.trans le2, ?_⟩ (by dsimp only; omega)) (by simp)
        dsimp only
        rw [htake, List.map_append]
        exact (hxs2.monoR le2).snoc hy1
      · have hi' : i2 = f.L.length := by omega
        subst hi'
        rw [List.take_length] at hxs2
        clear hc cont hlt hi
        refine Gs.freezeE (enc := eFH) (v := slv q2) (by decide) ?_
        intro h4 le4 hfr2
        (repeat (first | refine G.step ?_ | refine Gs.store ?_ | refine G.retc ?_))
        refine Gs.ret ⟨(q1, q2), rfl, FmR_iff.2 ⟨?_, ?_⟩⟩
        · rw [neg_L]; exact hL.mono (hle2.trans le4)
        · rw [neg_R]; exact ⟨xs2, hfr2, hxs2.monoR le4⟩
theorem radd_ok : ∀ (n : Nat) (f g : Fm), sz f + sz g ≤ n → n ≤ 100000 → AddOk (M := M) 18 f g := by
  intro n
  induction n with
  | zero => intro f g hf; have := sz_pos f; omega
  | succ n ih =>
    intro f g hf hn h x y hx hy
    have hl := lenL f
    have hr := lenR f
    have kl := lenL g
    have kr := lenR g
    have hxl := hx.l
    have hxr := hx.r
    have hyl := hy.l
    have hyr := hy.r
    refine ct18 ?_
    intro w0
    unfold s18
    (repeat (first | refine G.step ?_ | (refine Gs.box ?_; intro _) | (refine Gs.alloc ?_; intro _) | refine Gs.store ?_))
    rename_i ab bb rb fb
    refine Gs.nilsl 28 2 ?_
    refine Gs.lp (β := Nat × SlH × Hp × List FmH) (fun u => I u.1) (fun u => u.2.2.1) (fun u => [.sl (slv u.2.1) 28 2 (fl eFH u.2.2.2), .blk fb [slv u.2.1, .slice none 0 0] 28, .blk rb [.slice none 0 0, .slice none 0 0] 28, .blk bb [slv y.1, slv y.2] 28, .blk ab [slv x.1, slv x.2] 28]) (fun u => u.1 ≤ f.L.length ∧ Hle h u.2.2.1 ∧ All2 (FmR u.2.2.1) u.2.2.2 ((f.L.take u.1).map (add · g))) (fun u => f.L.length - u.1) (0, (none, 0, 0), h, []) rfl ⟨Nat.zero_le _, Hle.refl h, by simp; exact .nil⟩ (fun _ s => s) ?_
    rintro ⟨i1, q1, hh1, xs1⟩ ⟨hi, hle1, hxs1⟩ cont hc
    dsimp only at hi hle1 hxs1 hc ⊢
    have leK1 := (Hle.refl h).trans hle1
    have hlen1 : xs1.length = i1 := by rw [hxs1.len]; simp; omega
    (repeat (first | refine G.step ?_ | (refine G.jk ?_; intro _)))
    refine Gs.lenF (hxl.mono leK1) (by omega) ?_
    (repeat (refine G.step ?_))
    refine G.ifd ?_ ?_ <;> intro hlt
    · have hlt' : i1 < f.L.length := by omega
      have htake := List.take_succ_eq_append_getElem hlt'
      have hmem : f.L[i1] ∈ f.L := List.getElem_mem hlt'
      (repeat (first | refine Gs.dr ?_ | refine G.qkp ?_ | refine Gs.qkb ?_))
      refine Gs.qindexF (hxl.mono leK1) hlt' ?_
      intro b1 o1 x1 hp1 hx1
      refine Gs.qloadE hp1 ?_
      (repeat (refine Gs.qkb ?_))
      refine Gs.call0 (ih _ g (by have := sz_L hmem; omega) (by omega) hh1 x1 y hx1 (hy.mono leK1)) ?_
      rintro _ h2 le2 ⟨y1, rfl, hy1⟩
      (repeat (first | refine G.withT ?_ | refine Gs.withb ?_))
      refine Gs.buildSlice (out := eFH y1) (by decide) ?_
      intro eb
      (repeat (first | refine G.withT ?_ | refine Gs.withb ?_))
      refine Gs.appendO (enc := eFH) (l := xs1) (m := [y1]) (e2 := 28) (by simp [fl]) (by simp; omega) (by simp; omega) ?_
      intro v'
      refine Gs.slH (v := v') ?_
      rintro q2 rfl
      (repeat (first | refine G.add (by omega) ?_ | refine Gs.store ?_ | refine G.qkp ?_))
      refine Gs.goS (hc (i1 + 1, q2, h2, xs1 ++ [y1]) ⟨by dsimp only; omega, hle1.trans le2, ?_⟩ (by dsimp only; omega)) (by simp)
      dsimp only
      rw [htake, List.map_append]
      exact (hxs1.monoR le2).snoc hy1
    · have hi' : i1 = f.L.length := by omega
      subst hi'
      rw [List.take_length] at hxs1
      clear hc cont hlt hi
      skip
      refine Gs.lp (β := Nat × SlH × Hp × List FmH) (fun u => I u.1) (fun u => u.2.2.1) (fun u => [.sl (slv u.2.1) 28 2 (fl eFH u.2.2.2), .blk fb [slv u.2.1, .slice none 0 0] 28, .blk rb [.slice none 0 0, .slice none 0 0] 28, .blk bb [slv y.1, slv y.2] 28, .blk ab [slv x.1, slv x.2] 28]) (fun u => u.1 ≤ g.L.length ∧ Hle hh1 u.2.2.1 ∧ All2 (FmR u.2.2.1) u.2.2.2 ((f.L.map (add · g)) ++ (g.L.take u.1).map (add f ·))) (fun u => g.L.length - u.1) (0, q1, hh1, xs1) rfl ⟨Nat.zero_le _, Hle.refl hh1, by simpa using hxs1⟩ (fun _ s => s) ?_
      rintro ⟨i2, q2, hh2, xs2⟩ ⟨hi, hle2, hxs2⟩ cont hc
      dsimp only at hi hle2 hxs2 hc ⊢
      have leK2 := leK1.trans hle2
      have hlen2 : xs2.length = f.L.length + i2 := by rw [hxs2.len]; simp; omega
      (repeat (first | refine G.step ?_ | (refine G.jk ?_; intro _)))
      refine Gs.lenF (hyl.mono leK2) (by omega) ?_
      (repeat (refine G.step ?_))
      refine G.ifd ?_ ?_ <;> intro hlt
      · have hlt' : i2 < g.L.length := by omega
        have htake := List.take_succ_eq_append_getElem hlt'
        have hmem : g.L[i2] ∈ g.L := List.getElem_mem hlt'
        (repeat (first | refine Gs.dr ?_ | refine G.qkp ?_ | refine Gs.qkb ?_))
        refine Gs.qindexF (hyl.mono leK2) hlt' ?_
        intro b1 o1 x1 hp1 hx1
        refine Gs.qloadE hp1 ?_
        skip
        refine Gs.call0 (ih f _ (by have := sz_L hmem; omega) (by omega) hh2 x x1 (hx.mono leK2) hx1) ?_
        rintro _ h2 le2 ⟨y1, rfl, hy1⟩
        (repeat (first | refine G.withT ?_ | refine Gs.withb ?_))
        refine Gs.buildSlice (out := eFH y1) (by decide) ?_
        intro eb
        (repeat (first | refine G.withT ?_ | refine Gs.withb ?_))
        refine Gs.appendO (enc := eFH) (l := xs2) (m := [y1]) (e2 := 28) (by simp [fl]) (by simp; omega) (by simp; omega) ?_
        intro v'
        refine Gs.slH (v := v') ?_
        rintro q2 rfl
        (repeat (first | refine G.add (by omega) ?_ | refine Gs.store ?_ | refine G.qkp ?_))
        refine Gs.goS (hc (i2 + 1, q2, h2, xs2 ++ [y1]) ⟨by dsimp only; omega, hle2.trans le2, ?_⟩ (by dsimp only; omega)) (by simp)
        dsimp only
        rw [htake, List.map_append, ← List.append_assoc]
        exact (hxs2.monoR le2).snoc hy1
      · have hi' : i2 = g.L.length := by omega
        subst hi'
        rw [List.take_length] at hxs2
        clear hc cont hlt hi
        refine Gs.freezeE (enc := eFH) (v := slv q2) (by decide) ?_
        intro h5 le5 hfr
        have leF := leK2.trans le5
        have hL : RdF h5 (slv q2) eFH 2 FmR (f.L.map (add · g) ++ g.L.map (add f ·)) := ⟨xs2, hfr, hxs2.monoR le5⟩
        skip
        refine Gs.nilsl 28 2 ?_
        refine Gs.lp (β := Nat × SlH × Hp × List FmH) (fun u => I u.1) (fun u => u.2.2.1) (fun u => [.sl (slv u.2.1) 28 2 (fl eFH u.2.2.2), .blk fb [slv q2, slv u.2.1] 28, .blk rb [.slice none 0 0, .slice none 0 0] 28, .blk bb [slv y.1, slv y.2] 28, .blk ab [slv x.1, slv x.2] 28]) (fun u => u.1 ≤ f.R.length ∧ Hle h5 u.2.2.1 ∧ All2 (FmR u.2.2.1) u.2.2.2 ((f.R.take u.1).map (add · g))) (fun u => f.R.length - u.1) (0, (none, 0, 0), h5, []) rfl ⟨Nat.zero_le _, Hle.refl h5, by simp; exact .nil⟩ (fun _ s => s) ?_
        rintro ⟨i3, q3, hh3, xs3⟩ ⟨hi, hle3, hxs3⟩ cont hc
        dsimp only at hi hle3 hxs3 hc ⊢
        have leK3 := leF.trans hle3
        have hlen3 : xs3.length = i3 := by rw [hxs3.len]; simp; omega
        (repeat (first | refine G.step ?_ | (refine G.jk ?_; intro _)))
        refine Gs.lenF (hxr.mono leK3) (by omega) ?_
        (repeat (refine G.step ?_))
        refine G.ifd ?_ ?_ <;> intro hlt
        · have hlt' : i3 < f.R.length := by omega
          have htake := List.take_succ_eq_append_getElem hlt'
          have hmem : f.R[i3] ∈ f.R := List.getElem_mem hlt'
          (repeat (first | refine Gs.dr ?_ | refine G.qkp ?_ | refine Gs.qkb ?_))
          refine Gs.qindexF (hxr.mono leK3) hlt' ?_
          intro b1 o1 x1 hp1 hx1
          refine Gs.qloadE hp1 ?_
          (repeat (refine Gs.qkb ?_))
          refine Gs.call0 (ih _ g (by have := sz_R hmem; omega) (by omega) hh3 x1 y hx1 (hy.mono leK3)) ?_
          rintro _ h2 le2 ⟨y1, rfl, hy1⟩
          (repeat (first | refine G.withT ?_ | refine Gs.withb ?_))
          refine Gs.buildSlice (out := eFH y1) (by decide) ?_
          intro eb
          (repeat (first | refine G.withT ?_ | refine Gs.withb ?_))
          refine Gs.appendO (enc := eFH) (l := xs3) (m := [y1]) (e2 := 28) (by simp [fl]) (by simp; omega) (by simp; omega) ?_
          intro v'
          refine Gs.slH (v := v') ?_
          rintro q2 rfl
          (repeat (first | refine G.add (by omega) ?_ | refine Gs.store ?_ | refine G.qkp ?_))
          refine Gs.goS (hc (i3 + 1, q2, h2, xs3 ++ [y1]) ⟨by dsimp only; omega, hle3.trans le2, ?_⟩ (by dsimp only; omega)) (by simp)
          dsimp only
          rw [htake, List.map_append]
          exact (hxs3.monoR le2).snoc hy1
        · have hi' : i3 = f.R.length := by omega
          subst hi'
          rw [List.take_length] at hxs3
          clear hc cont hlt hi
          skip
          refine Gs.lp (β := Nat × SlH × Hp × List FmH) (fun u => I u.1) (fun u => u.2.2.1) (fun u => [.sl (slv u.2.1) 28 2 (fl eFH u.2.2.2), .blk fb [slv q2, slv u.2.1] 28, .blk rb [.slice none 0 0, .slice none 0 0] 28, .blk bb [slv y.1, slv y.2] 28, .blk ab [slv x.1, slv x.2] 28]) (fun u => u.1 ≤ g.R.length ∧ Hle hh3 u.2.2.1 ∧ All2 (FmR u.2.2.1) u.2.2.2 ((f.R.map (add · g)) ++ (g.R.take u.1).map (add f ·))) (fun u => g.R.length - u.1) (0, q3, hh3, xs3) rfl ⟨Nat.zero_le _, Hle.refl hh3, by simpa using hxs3⟩ (fun _ s => s) ?_
          rintro ⟨i4, q4, hh4, xs4⟩ ⟨hi, hle4, hxs4⟩ cont hc
          dsimp only at hi hle4 hxs4 hc ⊢
          have leK4 := leK3.trans hle4
          have hlen4 : xs4.length = f.R.length + i4 := by rw [hxs4.len]; simp; omega
          (repeat (first | refine G.step ?_ | (refine G.jk ?_; intro _)))
          refine Gs.lenF (hyr.mono leK4) (by omega) ?_
          (repeat (refine G.step ?_))
          refine G.ifd ?_ ?_ <;> intro hlt
          · have hlt' : i4 < g.R.length := by omega
            have htake := List.take_succ_eq_append_getElem hlt'
            have hmem : g.R[i4] ∈ g.R := List.getElem_mem hlt'
            (repeat (first | refine Gs.dr ?_ | refine G.qkp ?_ | refine Gs.qkb ?_))
            refine Gs.qindexF (hyr.mono leK4) hlt' ?_
            intro b1 o1 x1 hp1 hx1
            refine Gs.qloadE hp1 ?_
            skip
            refine Gs.call0 (ih f _ (by have := sz_R hmem; omega) (by omega) hh4 x x1 (hx.mono leK4) hx1) ?_
            rintro _ h2 le2 ⟨y1, rfl, hy1⟩
            (repeat (first | refine G.withT ?_ | refine Gs.withb ?_))
            refine Gs.buildSlice (out := eFH y1) (by decide) ?_
            intro eb
            (repeat (first | refine G.withT ?_ | refine Gs.withb ?_))
            refine Gs.appendO (enc := eFH) (l := xs4) (m := [y1]) (e2 := 28) (by simp [fl]) (by simp; omega) (by simp; omega) ?_
            intro v'
            refine Gs.slH (v := v') ?_
            rintro q2 rfl
            (repeat (first | refine G.add (by omega) ?_ | refine Gs.store ?_ | refine G.qkp ?_))
            refine Gs.goS (hc (i4 + 1, q2, h2, xs4 ++ [y1]) ⟨by dsimp only; omega, hle4.trans le2, ?_⟩ (by dsimp only; omega)) (by simp)
            dsimp only
            rw [htake, List.map_append, ← List.append_assoc]
            exact (hxs4.monoR le2).snoc hy1
          · have hi' : i4 = g.R.length := by omega
            subst hi'
            rw [List.take_length] at hxs4
            clear hc cont hlt hi
            refine Gs.freezeE (enc := eFH) (v := slv q4) (by decide) ?_
            intro h6 le6 hfr2
            (repeat (first | refine G.step ?_ | refine Gs.store ?_ | refine G.retc ?_))
            refine Gs.ret ⟨(q2, q4), rfl, FmR_iff.2 ⟨?_, ?_⟩⟩
            · rw [add_L]; exact hL.mono (hle3.trans (hle4.trans le6))
            · rw [add_R]; exact ⟨xs4, hfr2, hxs4.monoR le6⟩
end Go.Proofs.YtgdochemlbjnlaaGreat
end

section
/-
  Values: the reference's bypassing, its sorting, its best options.
-/
set_option linter.unusedVariables false
set_option linter.unusedSimpArgs false
set_option linter.unusedSectionVars false
set_option maxHeartbeats 2000000
set_option maxRecDepth 100000
namespace Go.Proofs.YtgdochemlbjnlaaGreat
open Go Go.Sk Go.Va Go.RowKit
variable {M : Go.Sk.Mode}
attribute [local irreducible] Go.Sk.vCall Go.Sk.Ct
theorem cut_to' {α : Type} (l : List α) (i : Nat) : (l.take (cutHi (some (i : Int)) l.length)).drop (cutLo none) = l.take i := by simp [cutHi, cutLo]
theorem cut_from' {α : Type} (l : List α) (i : Nat) : (l.take (cutHi none l.length)).drop (cutLo (some (i : Int))) = l.drop i := by simp [cutHi, cutLo]
theorem without_ok (v m : SlH) (l k : List Fm) (i : Nat) (h : Hp) (hv : RdF h (slv v) eFH 2 FmR l) (hm : RdF h (slv m) eFH 2 FmR k) (hi : i < l.length) (hn : l.length ≤ 100000 ∧ k.length ≤ 100000) : Ct Tryz.prog 53 [slv v, I i, slv m] h (fun h' r => ∃ q : SlH, r = slv q ∧ RdF h' (slv q) eFH 2 FmR (l.take i ++ k ++ l.drop (i + 1))) := by
  refine ct53 ?_
  intro w0
  unfold s53
  refine Gs.buildSlice (out := []) (by decide) ?_
  intro b0
  refine Gs.cutF (lo := none) (hi := some (i : Int)) hv (by simp [cutLo]) (by simp [cutHi]; omega) (by intro i e; cases e) (by intro i e; cases e; omega) ?_
  intro v1 hv1
  rw [cut_to'] at hv1
  obtain ⟨z1, r1, a1⟩ := hv1
  have n1 := a1.len
  simp only [List.length_take] at n1
  refine Gs.appendR (enc := eFH) (l := []) r1 (by simp; omega) (by simp; omega) ?_
  intro u1
  rw [List.nil_append]
  obtain ⟨z2, r2, a2⟩ := hm
  have n2 := a2.len
  refine Gs.appendR (enc := eFH) (l := z1) r2 (by omega) (by omega) ?_
  intro u2
  (repeat (refine G.add (by omega) ?_))
  rw [show (i : Int) + 1 = ((i + 1 : Nat) : Int) by omega]
  refine Gs.cutF (lo := some ((i + 1 : Nat) : Int)) (hi := none) hv (by simp [cutLo, cutHi]; omega) (by simp [cutHi]) (by intro i e; cases e; omega) (by intro i e; cases e) ?_
  intro v3 hv3
  rw [cut_from'] at hv3
  obtain ⟨z3, r3, a3⟩ := hv3
  have n3 := a3.len
  simp only [List.length_drop] at n3
  refine Gs.appendR (enc := eFH) (l := z1 ++ z2) r3 (by simp; omega) (by simp; omega) ?_
  intro u3
  refine Gs.slH (v := u3) ?_
  rintro q rfl
  refine Gs.freezeE (enc := eFH) (v := slv q) (by decide) ?_
  intro h' le' hr
  exact Gs.ret ⟨q, rfl, _, hr, ((a1.append a2).append a3).monoR le'⟩
/-- What the first bypassing makes of a form. -/
def bypF (f : Fm) : Fm := match byp f [] f.L with | some m => .mk m f.R | none => f
abbrev vB (y : FmH) (b : Bool) : Value := .agg #[slv y.1, slv y.2, .bool b]
theorem byp_at (w : Fm) (l : List Fm) (i : Nat) (hi : i < l.length) : byp w (l.take i) (l.drop i) = match l[i].R.find? (fun z => leq z w) with | some z => some (l.take i ++ z.L ++ l.drop (i + 1)) | none => byp w (l.take (i + 1)) (l.drop (i + 1)) := by
  rw [List.drop_eq_getElem_cons hi, byp, List.take_succ_eq_append_getElem hi]
  cases List.find? (fun z => leq z w) l[i].R <;> rfl
theorem bypassR_ok (f : Fm) (x : FmH) (h : Hp) (hx : FmR h x f) (hn : sz f ≤ 40000) : Ct Tryz.prog 34 [vF x] h (fun h' v => ∃ y : FmH, v = vB y (byp f [] f.L).isSome ∧ FmR h' y (bypF f)) := by
  have hl := lenL f
  have hr := lenR f
  refine ct34 ?_
  intro w0
  unfold s34
  (repeat (first | (refine Gs.box ?_; intro _) | (refine Gs.alloc ?_; intro _)))
  rename_i fb rb
  refine Gs.lp (β := Nat) (fun i => I i) (fun _ => h) (fun _ => [.blk rb [.slice none 0 0, .slice none 0 0, .bool false] 59, .blk fb [slv x.1, slv x.2] 28]) (fun i => i ≤ f.L.length ∧ byp f [] f.L = byp f (f.L.take i) (f.L.drop i)) (fun i => f.L.length - i) 0 rfl ⟨Nat.zero_le _, by simp⟩ (fun _ s => s) ?_
  rintro i ⟨hi, hby⟩ cont hc
  (repeat (first | refine G.step ?_ | (refine G.jk ?_; intro _)))
  refine Gs.lenF hx.l (by omega) ?_
  (repeat (refine G.step ?_))
  refine G.ifd ?_ ?_ <;> intro hlt
  · have hlt' : i < f.L.length := by omega
    have hmem : f.L[i] ∈ f.L := List.getElem_mem hlt'
    have hsz := sz_L hmem
    have hlr := lenR f.L[i]
    rw [byp_at f f.L i hlt'] at hby
    skip
    refine Gs.lp (β := Nat) (fun k => I k) (fun _ => h) (fun _ => [.blk rb [.slice none 0 0, .slice none 0 0, .bool false] 59, .blk fb [slv x.1, slv x.2] 28]) (fun k => k ≤ f.L[i].R.length ∧ f.L[i].R.find? (fun z => leq z f) = (f.L[i].R.drop k).find? (fun z => leq z f)) (fun k => f.L[i].R.length - k) 0 rfl ⟨Nat.zero_le _, by simp⟩ (fun _ s => s) ?_
    rintro k ⟨hk, hfind⟩ cont2 hc2
    (repeat (first | refine G.step ?_ | (refine G.jk ?_; intro _)))
    refine Gs.indexF hx.l hlt' ?_
    intro b1 o1 x1 hp1 hx1
    (repeat (refine G.step ?_))
    refine Gs.loadP1 (hp1.field (c := 1)) ?_
    refine Gs.lenF hx1.r (by omega) ?_
    (repeat (refine G.step ?_))
    refine G.ifd ?_ ?_ <;> intro hltk
    · have hltk' : k < f.L[i].R.length := by omega
      have hmk : f.L[i].R[k] ∈ f.L[i].R := List.getElem_mem hltk'
      have hszk := sz_R hmk
      have hlz := lenL f.L[i].R[k]
      rw [List.drop_eq_getElem_cons hltk', List.find?_cons] at hfind
      (repeat (first | refine Gs.dr ?_ | refine G.qkp ?_ | refine Gs.qkb ?_))
      refine Gs.qindexF hx.l hlt' ?_
      intro b2 o2 x2 hp2 hx2
      (repeat (refine G.qkp ?_))
      refine Gs.qloadP1 (hp2.field (c := 1)) ?_
      refine Gs.qindexF hx2.r hltk' ?_
      intro b3 o3 x3 hp3 hx3
      refine Gs.qloadE hp3 ?_
      (repeat (refine Gs.qkb ?_))
      refine Gs.callv0 (rleq_ok (sz f.L[i].R[k] + sz f) _ _ (Nat.le_refl _) (by omega) h x3 x hx3 hx) ?_
      refine G.ifb ?_ ?_ <;> intro hb
      · rw [hb] at hfind
        simp only at hfind
        rw [hfind] at hby
        simp only at hby
        (repeat (first | refine Gs.dr ?_ | refine G.qkp ?_ | refine Gs.qkb ?_))
        refine Gs.qindexF hx.l hlt' ?_
        intro b4 o4 x4 hp4 hx4
        (repeat (refine G.qkp ?_))
        refine Gs.qloadP1 (hp4.field (c := 1)) ?_
        refine Gs.qindexF hx4.r hltk' ?_
        intro b5 o5 x5 hp5 hx5
        (repeat (refine G.qkp ?_))
        refine Gs.qloadP1 hp5 ?_
        (repeat (first | refine G.qkp ?_ | refine Gs.qkb ?_))
        refine Gs.call0 (without_ok x.1 x5.1 f.L f.L[i].R[k].L i h hx.l hx5.l hlt' (by omega)) ?_
        rintro _ h2 le2 ⟨q, rfl, hq⟩
        (repeat (first | refine Gs.withb ?_ | refine G.withT ?_))
        (repeat (first | refine Gs.store ?_ | refine G.retc ?_ | refine G.qkp ?_))
        refine Gs.ret ⟨(q, x.2), by rw [hby]; rfl, FmR_iff.2 ?_⟩
        unfold bypF
        rw [hby]
        exact ⟨hq, hx.r.mono le2⟩
      · rw [hb] at hfind
        simp only at hfind
        (repeat (refine G.add (by omega) ?_))
        exact Gs.go (hc2 (k + 1) ⟨by omega, hfind⟩ (by omega)) (by simp)
    · have hk' : k = f.L[i].R.length := by omega
      rw [hk', List.drop_length, List.find?_nil] at hfind
      rw [hfind] at hby
      simp only at hby
      (repeat (refine G.add (by omega) ?_))
      exact Gs.go (hc (i + 1) ⟨by omega, hby⟩ (by omega)) (by simp)
  · have hi' : i = f.L.length := by omega
    rw [hi', List.drop_length, byp] at hby
    (repeat (first | refine G.step ?_ | refine Gs.store ?_ | refine G.retc ?_))
    refine Gs.ret ⟨x, by rw [hby]; rfl, ?_⟩
    unfold bypF
    rw [hby]
    exact hx
theorem sortedR_ok (v : SlH) (l : List Fm) (h : Hp) (hv : RdF h (slv v) eFH 2 FmR l) (hn : szs l ≤ 40000) : Ct Tryz.prog 36 [slv v] h (fun h' r => ∃ q : SlH, r = slv q ∧ RdF h' (slv q) eFH 2 FmR (insS l)) := by
  have hll := len_le_szs l
  refine ct36 ?_
  intro w0
  unfold s36
  refine Gs.buildSlice (out := []) (by decide) ?_
  intro b0
  refine Gs.freezeE (enc := eFH) (v := .slice (some ⟨b0, 0, none⟩) 0 0) (l := []) (by decide) ?_
  intro h1 le1 r1
  refine Gs.lp (β := Nat × SlH × Hp) (fun u => (slv u.2.1, I u.1)) (fun u => u.2.2) (fun _ => []) (fun u => u.1 ≤ l.length ∧ Hle h u.2.2 ∧ RdF u.2.2 (slv u.2.1) eFH 2 FmR (insS (l.take u.1))) (fun u => l.length - u.1) (0, (some ⟨b0, 0, none⟩, 0, 0), h1) rfl ⟨Nat.zero_le _, le1, ⟨[], r1, by simp [insS]; exact .nil⟩⟩ (fun _ s => s) ?_
  rintro ⟨i, q, hh⟩ ⟨hi, leh, hO⟩ cont hc
  dsimp only at hi leh hO hc ⊢
  have hOlen : (insS (l.take i)).length = i := by rw [(insS_perm _).length_eq, List.length_take]; omega
  have hszs : ∀ x ∈ insS (l.take i), sz x ≤ 40000 := fun x hx => by
    have := sz_mem (List.mem_of_mem_take ((insS_perm _).mem_iff.1 hx)); omega
  have htk := fun (hlt' : i < l.length) => List.take_succ_eq_append_getElem hlt'
  generalize hOdef : insS (l.take i) = O at *
  (repeat (refine G.jk ?_; intro _))
  refine Gs.lenF (hv.mono leh) (by omega) ?_
  (repeat (refine G.step ?_))
  refine G.ifd ?_ ?_ <;> intro hlt
  · have hlt' : i < l.length := by omega
    have hmx := sz_mem (List.getElem_mem hlt')
    skip
    have hpl := atT_le l[i] O
    refine Gs.lp (β := Nat) (fun k => I k) (fun _ => hh) (fun _ => []) (fun k => k ≤ atT l[i] O) (fun k => atT l[i] O - k) 0 rfl (Nat.zero_le _) (fun _ s => s) ?_
    rintro at_ hat cont3 hc3
    refine G.jk ?_; intro _
    refine G.jnP (fun j => j = .bool (decide (at_ < atT l[i] O))) ?_ ?_
    · rintro _ rfl
      refine G.jk ?_; intro _
      refine G.ifd ?_ ?_ <;> intro hgo
      · (repeat (refine G.add (by omega) ?_))
        exact Gs.go (hc3 (at_ + 1) (by omega) (by omega)) (by simp)
      · have hat' : at_ = atT l[i] O := by omega
        refine G.jnk (fun (j : Value) S' => ∃ (q' : SlH) (h' : Hp) (ys : List FmH), j = slv q' ∧ Hle hh h' ∧ All2 (FmR h') ys (O.take at_ ++ [l[i]]) ∧ S' = St w0 h h' [.sl (slv q') 28 2 (fl eFH ys)]) ?_ ?_
        · rintro _ _ ⟨q', h', ys, rfl, le', hys, rfl⟩
          refine G.jk ?_; intro _
          have hyl := hys.len
          simp only [List.length_append, List.length_take, List.length_cons, List.length_nil] at hyl
          refine Gs.cutF (lo := some (at_ : Int)) (hi := none) (hO.mono le') (by simp [cutLo, cutHi]; omega) (by simp [cutHi]) (by intro i e; cases e; omega) (by intro i e; cases e) ?_
          intro v3 hv3
          rw [cut_from'] at hv3
          obtain ⟨z3, r3, a3⟩ := hv3
          have n3 := a3.len
          simp only [List.length_drop] at n3
          refine Gs.appendR (enc := eFH) (l := ys) r3 (by omega) (by omega) ?_
          intro u3
          refine Gs.slH (v := u3) ?_
          rintro q3 rfl
          refine Gs.freezeE (enc := eFH) (v := slv q3) (by decide) ?_
          intro h4 le4 hr4
          have hins : RdF h4 (slv q3) eFH 2 FmR (ins l[i] O) := by
            rw [ins_at, ← hat', show O.take at_ ++ l[i] :: O.drop at_ = (O.take at_ ++ [l[i]]) ++ O.drop at_ by simp]
            exact ⟨_, hr4, (hys.append a3).monoR le4⟩
          (repeat (refine G.add (by omega) ?_))
          exact Gs.go (t' := (slv q3, I ((i + 1 : Nat) : Int))) (hc (i + 1, q3, h4) ⟨by dsimp only; omega, leh.trans (le'.trans le4), by dsimp only; rw [htk hlt', insS_snoc, hOdef]; exact hins⟩ (by dsimp only; omega)) (by simp)
        · intro k30 hk30
          refine Gs.dr ?_
          refine Gs.qcutF (lo := none) (hi := some (at_ : Int)) hO (by simp [cutLo]) (by simp [cutHi]; omega) (by intro i e; cases e) (by intro i e; cases e; omega) ?_
          intro v1 hv1
          rw [cut_to'] at hv1
          obtain ⟨z1, r1, a1⟩ := hv1
          have n1 := a1.len
          simp only [List.length_take] at n1
          refine Gs.qindexF (hv.mono leh) hlt' ?_
          intro b2 o2 x2 hp2 hx2
          refine Gs.qloadE hp2 ?_
          have fin : ∀ v, Gs w0 h hh [.sl v 28 2 (fl eFH (z1 ++ [x2]))] (k30 v) := fun v => Gs.slH (v := v) fun q' e => by
            subst e
            exact hk30 _ _ ⟨q', hh, z1 ++ [x2], rfl, Hle.refl hh, a1.snoc hx2, rfl⟩
          refine G.or2 ?_ ?_
          · refine Gs.buildSlice (out := []) (by decide) ?_
            intro b0
            (repeat (first | refine Gs.withf (Hle.refl _) ?_ | refine G.withT ?_))
            refine G.or2 ?_ ?_
            · refine Gs.appendR (enc := eFH) (l := []) r1 (by simp; omega) (by simp; omega) ?_
              intro u1
              rw [List.nil_append]
              (repeat (first | refine Gs.withf (Hle.refl _) ?_ | refine G.withT ?_))
              refine Gs.buildSlice (out := eFH x2) (by decide) ?_
              intro b1
              (repeat (refine G.withT ?_))
              refine Gs.appendO (enc := eFH) (l := z1) (m := [x2]) (e2 := 28) (by simp [fl]) (by simp; omega) (by simp; omega) ?_
              intro u2
              exact Gs.sel (fin u2)
            · refine Gs.buildSlice (out := eFH x2) (by decide) ?_
              intro b1
              (repeat (refine G.withT ?_))
              refine Gs.perm (.swap _ _ _) ?_
              refine Gs.appendR (enc := eFH) (l := []) r1 (by simp; omega) (by simp; omega) ?_
              intro u1
              rw [List.nil_append]
              (repeat (first | refine Gs.withf (Hle.refl _) ?_ | refine G.withT ?_))
              refine Gs.appendO (enc := eFH) (l := z1) (m := [x2]) (e2 := 28) (by simp [fl]) (by simp; omega) (by simp; omega) ?_
              intro u2
              exact Gs.sel (fin u2)
          · refine Gs.buildSlice (out := eFH x2) (by decide) ?_
            intro b1
            (repeat (refine G.withT ?_))
            refine Gs.buildSlice (out := []) (by decide) ?_
            intro b0
            (repeat (first | refine Gs.withf (Hle.refl _) ?_ | refine G.withT ?_))
            refine Gs.appendR (enc := eFH) (l := []) r1 (by simp; omega) (by simp; omega) ?_
            intro u1
            rw [List.nil_append]
            (repeat (first | refine Gs.withf (Hle.refl _) ?_ | refine G.withT ?_))
            refine Gs.appendO (enc := eFH) (l := z1) (m := [x2]) (e2 := 28) (by simp [fl]) (by simp; omega) (by simp; omega) ?_
            intro u2
            exact Gs.sel (fin u2)
    · intro k28 hk28
      refine Gs.dr ?_
      refine Gs.qlenF hO (by omega) ?_
      (repeat (refine G.qkp ?_))
      refine G.gddt ?_ ?_ <;> intro c1
      · have c1' : at_ < O.length := by omega
        have hszO := hszs _ (List.getElem_mem c1')
        refine Gs.qindexF hO c1' ?_
        intro b1 o1 x1 hp1 hx1
        refine Gs.qloadE hp1 ?_
        refine Gs.qindexF (hv.mono leh) hlt' ?_
        intro b2 o2 x2 hp2 hx2
        refine Gs.qloadE hp2 ?_
        refine Gs.callv0 (rprint_ok (sz O[at_]) _ (Nat.le_refl _) (by omega) hh x1 hx1) ?_
        (repeat (first | refine Gs.withf (Hle.refl _) ?_ | refine G.withT ?_))
        refine Gs.callv0 (rprint_ok (sz l[i]) _ (Nat.le_refl _) (by omega) hh x2 hx2) ?_
        (repeat (refine G.qkp ?_))
        refine hk28 _ ?_
        congr 1
        rw [bytesLess_eq]
        by_cases hlt3 : at_ < atT l[i] O
        · rw [decide_eq_true hlt3]
          exact atT_lt l[i] O at_ c1' hlt3
        · have he : at_ = atT l[i] O := by omega
          rw [decide_eq_false hlt3]
          subst he
          exact atT_stop l[i] O c1'
      · exact hk28 _ (by rw [decide_eq_false]; omega)
  · have hi' : i = l.length := by omega
    rw [hi', List.take_length] at hOdef
    exact Gs.ret ⟨q, rfl, by rw [hOdef]; exact hO⟩
theorem bestR_ok (v : SlH) (l : List Fm) (h : Hp) (hv : RdF h (slv v) eFH 2 FmR l) (hn : szs l ≤ 40000) : Ct Tryz.prog 35 [slv v] h (fun h' r => ∃ q : SlH, r = slv q ∧ RdF h' (slv q) eFH 2 FmR (insS (best leq l))) := by
  have hll := len_le_szs l
  refine ct35 ?_
  intro w0
  unfold s35
  refine Gs.buildSlice (out := []) (by decide) ?_
  intro b0
  refine Gs.freezeE (enc := eFH) (v := .slice (some ⟨b0, 0, none⟩) 0 0) (l := []) (by decide) ?_
  intro h1 le1 r1
  refine Gs.lp (β := Nat × SlH × Hp) (fun u => (slv u.2.1, I u.1)) (fun u => u.2.2) (fun _ => []) (fun u => u.1 ≤ l.length ∧ Hle h u.2.2 ∧ RdF u.2.2 (slv u.2.1) eFH 2 FmR (insS (((l.zipIdx.take u.1).filter fun p => !l.zipIdx.any (dom leq p)).map (·.1)))) (fun u => l.length - u.1) (0, (some ⟨b0, 0, none⟩, 0, 0), h1) rfl ⟨Nat.zero_le _, le1, ⟨[], r1, by simp [insS]; exact .nil⟩⟩ (fun _ s => s) ?_
  rintro ⟨i, q, hh⟩ ⟨hi, leh, hO⟩ cont hc
  dsimp only at hi leh hO hc ⊢
  have hBmem : ∀ x ∈ ((l.zipIdx.take i).filter fun p => !l.zipIdx.any (dom leq p)).map (·.1), x ∈ l := fun x hx => by
    obtain ⟨p, hp, rfl⟩ := List.mem_map.1 hx
    have hp' := List.mem_of_mem_take (List.mem_filter.1 hp).1
    exact List.fst_mem_of_mem_zipIdx hp'
  have hBlen : (((l.zipIdx.take i).filter fun p => !l.zipIdx.any (dom leq p)).map (·.1)).length ≤ i := by
    simp only [List.length_map]
    refine Nat.le_trans (List.length_filter_le _ _) ?_
    simp only [List.length_take]
    omega
  have hsn := fun (hlt' : i < l.length) => bestI_snoc leq l i hlt'
  have hend : i = l.length → insS (((l.zipIdx.take i).filter fun p => !l.zipIdx.any (dom leq p)).map (·.1)) = insS (best leq l) := fun e => by
    rw [e, List.take_of_length_le (by simp)]; rfl
  generalize ((l.zipIdx.take i).filter fun p => !l.zipIdx.any (dom leq p)).map (·.1) = B at *
  have hOlen : (insS B).length ≤ i := by rw [(insS_perm _).length_eq]; exact hBlen
  have hszs : ∀ x ∈ insS B, sz x ≤ 40000 := fun x hx => by
    have := sz_mem (hBmem x ((insS_perm _).mem_iff.1 hx)); omega
  have hsn2 := fun (x : Fm) => insS_snoc B x
  generalize hOdef : insS B = O at *
  (repeat (refine G.jk ?_; intro _))
  refine Gs.lenF (hv.mono leh) (by omega) ?_
  (repeat (refine G.step ?_))
  refine G.ifd ?_ ?_ <;> intro hlt
  · have hlt' : i < l.length := by omega
    have hmx := sz_mem (List.getElem_mem hlt')
    have hsn := hsn hlt'
    refine G.jnk (fun (j : Value) S' => ∃ (q' : SlH) (h' : Hp), j = slv q' ∧ Hle hh h' ∧ RdF h' (slv q') eFH 2 FmR (insS (((l.zipIdx.take (i + 1)).filter fun p => !l.zipIdx.any (dom leq p)).map (·.1))) ∧ S' = St w0 h h' []) ?_ ?_
    · rintro _ _ ⟨q', h', rfl, le', hO', rfl⟩
      refine G.jk ?_; intro _
      (repeat (refine G.add (by omega) ?_))
      exact Gs.go (t' := (slv q', I ((i + 1 : Nat) : Int))) (hc (i + 1, q', h') ⟨by dsimp only; omega, leh.trans le', hO'⟩ (by dsimp only; omega)) (by simp)
    · intro k5 hk5
      rw [hsn] at hk5
      refine Gs.lp (β := Nat) (fun m => (.bool (!(l.zipIdx.take m).any (dom leq (l[i], i))), I m)) (fun _ => hh) (fun _ => []) (fun m => m ≤ l.length) (fun m => l.length - m) 0 (by simp) (Nat.zero_le _) (fun _ s => s) ?_
      rintro m hm cont2 hc2
      refine G.jk ?_; intro _
      refine Gs.lenF (hv.mono leh) (by omega) ?_
      (repeat (refine G.step ?_))
      refine G.ifd ?_ ?_ <;> intro hlt2
      · have hlt2' : m < l.length := by omega
        have hmy := sz_mem (List.getElem_mem hlt2')
        have hany := any_snoc leq l (l[i], i) m hlt2'
        refine G.jnP (fun j => j = .bool (!(l.zipIdx.take (m + 1)).any (dom leq (l[i], i)))) ?_ ?_
        · rintro _ rfl
          refine G.jk ?_; intro _
          (repeat (refine G.add (by omega) ?_))
          exact Gs.go (t' := (.bool (!(l.zipIdx.take (m + 1)).any (dom leq (l[i], i))), I ((m + 1 : Nat) : Int))) (hc2 (m + 1) (by omega) (by omega)) (by simp)
        · intro k10 hk10
          rw [hany] at hk10
          refine G.jnP (fun j => j = .bool (dom leq (l[i], i) (l[m], m))) ?_ ?_
          · rintro _ rfl
            refine G.jk ?_; intro _
            refine G.ifb ?_ ?_ <;> intro hd
            · refine hk10 _ ?_
              rw [hd, Bool.or_true]; rfl
            · refine hk10 _ ?_
              rw [hd, Bool.or_false]
          · intro k12 hk12
            have hdom : dom leq (l[i], i) (l[m], m) = (decide (m ≠ i) && leq l[i] l[m] && (decide (m < i) || !leq l[m] l[i])) := rfl
            rw [hdom] at hk12
            (repeat (first | refine Gs.dr ?_ | refine G.qkp ?_))
            refine G.gddt ?_ ?_ <;> intro c1
            · refine Gs.qindexF (hv.mono leh) hlt' ?_
              intro b1 o1 x1 hp1 hx1
              refine Gs.qloadE hp1 ?_
              refine Gs.qindexF (hv.mono leh) hlt2' ?_
              intro b2 o2 x2 hp2 hx2
              refine Gs.qloadE hp2 ?_
              refine Gs.callv0 (rleq_ok (sz l[i] + sz l[m]) _ _ (Nat.le_refl _) (by omega) hh x1 x2 hx1 hx2) ?_
              refine G.gdbt ?_ ?_ <;> intro c2
              · (repeat (refine G.qkp ?_))
                refine G.gddf ?_ ?_ <;> intro c3
                · refine hk12 _ ?_
                  rw [decide_eq_true (show m ≠ i by omega), c2, decide_eq_true (show m < i by omega)]; rfl
                · refine Gs.qindexF (hv.mono leh) hlt2' ?_
                  intro b3 o3 x3 hp3 hx3
                  refine Gs.qloadE hp3 ?_
                  refine Gs.qindexF (hv.mono leh) hlt' ?_
                  intro b4 o4 x4 hp4 hx4
                  refine Gs.qloadE hp4 ?_
                  refine Gs.callv0 (rleq_ok (sz l[m] + sz l[i]) _ _ (Nat.le_refl _) (by omega) hh x3 x4 hx3 hx4) ?_
                  (repeat (refine G.qkp ?_))
                  refine hk12 _ ?_
                  rw [decide_eq_true (show m ≠ i by omega), c2, decide_eq_false (show ¬ m < i by omega)]; rfl
              · refine hk12 _ ?_
                rw [c2, Bool.and_false, Bool.false_and]
            · refine hk12 _ ?_
              rw [decide_eq_false (show ¬ m ≠ i by omega)]; rfl
      · have hm' : m = l.length := by omega
        subst hm'
        rw [List.take_of_length_le (by simp)]
        (repeat (refine G.step ?_))
        refine G.ifb ?_ ?_ <;> intro hkeep
        · have hkeep' : ¬ (!l.zipIdx.any (dom leq (l[i], i))) = true := by simp at hkeep ⊢; exact hkeep
          refine hk5 _ _ ⟨q, hh, rfl, Hle.refl hh, ?_, rfl⟩
          rw [if_neg hkeep', List.append_nil, hOdef]
          exact hO
        · have hkeep' : (!l.zipIdx.any (dom leq (l[i], i))) = true := by simpa using hkeep
          rw [if_pos hkeep', hsn2] at hk5
          have hpl := atT_le l[i] O
          refine Gs.lp (β := Nat) (fun k => I k) (fun _ => hh) (fun _ => []) (fun k => k ≤ atT l[i] O) (fun k => atT l[i] O - k) 0 rfl (Nat.zero_le _) (fun _ s => s) ?_
          rintro at_ hat cont3 hc3
          refine G.jk ?_; intro _
          refine G.jnP (fun j => j = .bool (decide (at_ < atT l[i] O))) ?_ ?_
          · rintro _ rfl
            refine G.jk ?_; intro _
            refine G.ifd ?_ ?_ <;> intro hgo
            · (repeat (refine G.add (by omega) ?_))
              exact Gs.go (hc3 (at_ + 1) (by omega) (by omega)) (by simp)
            · have hat' : at_ = atT l[i] O := by omega
              refine G.jnk (fun (j : Value) S' => ∃ (q' : SlH) (h' : Hp) (ys : List FmH), j = slv q' ∧ Hle hh h' ∧ All2 (FmR h') ys (O.take at_ ++ [l[i]]) ∧ S' = St w0 h h' [.sl (slv q') 28 2 (fl eFH ys)]) ?_ ?_
              · rintro _ _ ⟨q', h', ys, rfl, le', hys, rfl⟩
                refine G.jk ?_; intro _
                have hyl := hys.len
                simp only [List.length_append, List.length_take, List.length_cons, List.length_nil] at hyl
                refine Gs.cutF (lo := some (at_ : Int)) (hi := none) (hO.mono le') (by simp [cutLo, cutHi]; omega) (by simp [cutHi]) (by intro i e; cases e; omega) (by intro i e; cases e) ?_
                intro v3 hv3
                rw [cut_from'] at hv3
                obtain ⟨z3, r3, a3⟩ := hv3
                have n3 := a3.len
                simp only [List.length_drop] at n3
                refine Gs.appendR (enc := eFH) (l := ys) r3 (by omega) (by omega) ?_
                intro u3
                refine Gs.slH (v := u3) ?_
                rintro q3 rfl
                refine Gs.freezeE (enc := eFH) (v := slv q3) (by decide) ?_
                intro h4 le4 hr4
                have hins : RdF h4 (slv q3) eFH 2 FmR (ins l[i] O) := by
                  rw [ins_at, ← hat', show O.take at_ ++ l[i] :: O.drop at_ = (O.take at_ ++ [l[i]]) ++ O.drop at_ by simp]
                  exact ⟨_, hr4, (hys.append a3).monoR le4⟩
                exact hk5 _ _ ⟨q3, h4, rfl, le'.trans le4, hins, rfl⟩
              · intro k30 hk30
                refine Gs.dr ?_
                refine Gs.qcutF (lo := none) (hi := some (at_ : Int)) hO (by simp [cutLo]) (by simp [cutHi]; omega) (by intro i e; cases e) (by intro i e; cases e; omega) ?_
                intro v1 hv1
                rw [cut_to'] at hv1
                obtain ⟨z1, r1, a1⟩ := hv1
                have n1 := a1.len
                simp only [List.length_take] at n1
                refine Gs.qindexF (hv.mono leh) hlt' ?_
                intro b2 o2 x2 hp2 hx2
                refine Gs.qloadE hp2 ?_
                have fin : ∀ v, Gs w0 h hh [.sl v 28 2 (fl eFH (z1 ++ [x2]))] (k30 v) := fun v => Gs.slH (v := v) fun q' e => by
                  subst e
                  exact hk30 _ _ ⟨q', hh, z1 ++ [x2], rfl, Hle.refl hh, a1.snoc hx2, rfl⟩
                refine G.or2 ?_ ?_
                · refine Gs.buildSlice (out := []) (by decide) ?_
                  intro b0
                  (repeat (first | refine Gs.withf (Hle.refl _) ?_ | refine G.withT ?_))
                  refine G.or2 ?_ ?_
                  · refine Gs.appendR (enc := eFH) (l := []) r1 (by simp; omega) (by simp; omega) ?_
                    intro u1
                    rw [List.nil_append]
                    (repeat (first | refine Gs.withf (Hle.refl _) ?_ | refine G.withT ?_))
                    refine Gs.buildSlice (out := eFH x2) (by decide) ?_
                    intro b1
                    (repeat (refine G.withT ?_))
                    refine Gs.appendO (enc := eFH) (l := z1) (m := [x2]) (e2 := 28) (by simp [fl]) (by simp; omega) (by simp; omega) ?_
                    intro u2
                    exact Gs.sel (fin u2)
                  · refine Gs.buildSlice (out := eFH x2) (by decide) ?_
                    intro b1
                    (repeat (refine G.withT ?_))
                    refine Gs.perm (.swap _ _ _) ?_
                    refine Gs.appendR (enc := eFH) (l := []) r1 (by simp; omega) (by simp; omega) ?_
                    intro u1
                    rw [List.nil_append]
                    (repeat (first | refine Gs.withf (Hle.refl _) ?_ | refine G.withT ?_))
                    refine Gs.appendO (enc := eFH) (l := z1) (m := [x2]) (e2 := 28) (by simp [fl]) (by simp; omega) (by simp; omega) ?_
                    intro u2
                    exact Gs.sel (fin u2)
                · refine Gs.buildSlice (out := eFH x2) (by decide) ?_
                  intro b1
                  (repeat (refine G.withT ?_))
                  refine Gs.buildSlice (out := []) (by decide) ?_
                  intro b0
                  (repeat (first | refine Gs.withf (Hle.refl _) ?_ | refine G.withT ?_))
                  refine Gs.appendR (enc := eFH) (l := []) r1 (by simp; omega) (by simp; omega) ?_
                  intro u1
                  rw [List.nil_append]
                  (repeat (first | refine Gs.withf (Hle.refl _) ?_ | refine G.withT ?_))
                  refine Gs.appendO (enc := eFH) (l := z1) (m := [x2]) (e2 := 28) (by simp [fl]) (by simp; omega) (by simp; omega) ?_
                  intro u2
                  exact Gs.sel (fin u2)
          · intro k28 hk28
            refine Gs.dr ?_
            refine Gs.qlenF hO (by omega) ?_
            (repeat (refine G.qkp ?_))
            refine G.gddt ?_ ?_ <;> intro c1
            · have c1' : at_ < O.length := by omega
              have hszO := hszs _ (List.getElem_mem c1')
              refine Gs.qindexF hO c1' ?_
              intro b1 o1 x1 hp1 hx1
              refine Gs.qloadE hp1 ?_
              refine Gs.qindexF (hv.mono leh) hlt' ?_
              intro b2 o2 x2 hp2 hx2
              refine Gs.qloadE hp2 ?_
              refine Gs.callv0 (rprint_ok (sz O[at_]) _ (Nat.le_refl _) (by omega) hh x1 hx1) ?_
              (repeat (first | refine Gs.withf (Hle.refl _) ?_ | refine G.withT ?_))
              refine Gs.callv0 (rprint_ok (sz l[i]) _ (Nat.le_refl _) (by omega) hh x2 hx2) ?_
              (repeat (refine G.qkp ?_))
              refine hk28 _ ?_
              congr 1
              rw [bytesLess_eq]
              by_cases hlt3 : at_ < atT l[i] O
              · rw [decide_eq_true hlt3]
                exact atT_lt l[i] O at_ c1' hlt3
              · have he : at_ = atT l[i] O := by omega
                rw [decide_eq_false hlt3]
                subst he
                exact atT_stop l[i] O c1'
            · exact hk28 _ (by rw [decide_eq_false]; omega)
  · exact Gs.ret ⟨q, rfl, by rw [← hend (by omega)]; exact hO⟩
end Go.Proofs.YtgdochemlbjnlaaGreat
end

section
/-
  Values: the reference's canonical forms; who wins.
-/
set_option linter.unusedVariables false
set_option linter.unusedSimpArgs false
set_option linter.unusedSectionVars false
set_option maxHeartbeats 2000000
set_option maxRecDepth 100000
namespace Go.Proofs.YtgdochemlbjnlaaGreat
open Go Go.Sk Go.Va Go.RowKit
variable {M : Go.Sk.Mode}
attribute [local irreducible] Go.Sk.vCall Go.Sk.Ct
def RCan [M : Go.Sk.Mode] (f : Fm) : Prop := ∀ (h : Hp) (x : FmH), FmR h x f → Ct Tryz.prog 16 [vF x] h (fun h' v => ∃ y : FmH, v = vF y ∧ FmR h' y (canon f))
theorem rall_ok (l : List Fm) (v : SlH) (h : Hp) (hv : RdF h (slv v) eFH 2 FmR l) (hn : l.length ≤ 100000) (hcan : ∀ f ∈ l, RCan (M := M) f) : Ct Tryz.prog 33 [slv v] h (fun h' r => ∃ q : SlH, r = slv q ∧ RdF h' (slv q) eFH 2 FmR (l.map canon)) := by
  refine ct33 ?_
  intro w0
  unfold s33
  refine Gs.buildSlice (out := []) (by decide) ?_
  intro b0
  refine Gs.lp (β := Nat × SlH × Hp × List FmH) (fun u => (slv u.2.1, I u.1)) (fun u => u.2.2.1) (fun u => [.sl (slv u.2.1) 28 2 (fl eFH u.2.2.2)]) (fun u => u.1 ≤ l.length ∧ Hle h u.2.2.1 ∧ All2 (FmR u.2.2.1) u.2.2.2 ((l.take u.1).map canon)) (fun u => l.length - u.1) (0, (some ⟨b0, 0, none⟩, 0, 0), h, []) rfl ⟨Nat.zero_le _, Hle.refl h, by simp; exact .nil⟩ (fun _ s => s) ?_
  rintro ⟨i, q, hh, xs⟩ ⟨hi, hle, hxs⟩ cont hc
  dsimp only at hi hle hxs hc ⊢
  have hlen : xs.length = i := by rw [hxs.len]; simp; omega
  (repeat (refine G.jk ?_; intro _))
  refine Gs.lenF (hv.mono hle) (by omega) ?_
  (repeat (refine G.step ?_))
  refine G.ifd ?_ ?_ <;> intro hlt
  · have hlt' : i < l.length := by omega
    have htake := List.take_succ_eq_append_getElem hlt'
    have hmem : l[i] ∈ l := List.getElem_mem hlt'
    refine Gs.indexF (hv.mono hle) hlt' ?_
    intro b1 o1 x1 hp1 hx1
    refine Gs.loadE hp1 ?_
    refine Gs.call0 (hcan _ hmem hh x1 hx1) ?_
    rintro _ h2 le2 ⟨y, rfl, hy⟩
    refine Gs.buildSlice (out := eFH y) (by decide) ?_
    intro eb
    refine Gs.appendO (enc := eFH) (l := xs) (m := [y]) (e2 := 28) (by simp [fl]) (by simp; omega) (by simp; omega) ?_
    intro v'
    refine Gs.slH (v := v') ?_
    rintro q2 rfl
    (repeat (refine G.add (by omega) ?_))
    refine Gs.goS (hc (i + 1, q2, h2, xs ++ [y]) ⟨by dsimp only; omega, hle.trans le2, ?_⟩ (by dsimp only; omega)) (by simp)
    dsimp only
    rw [htake, List.map_append]
    exact (hxs.monoR le2).snoc hy
  · have hi' : i = l.length := by omega
    subst hi'
    rw [List.take_length] at hxs
    refine Gs.freezeE (enc := eFH) (v := slv q) (by decide) ?_
    intro h1 le1 hfr
    exact Gs.ret ⟨q, rfl, xs, hfr, hxs.monoR le1⟩
theorem bypF_neg (l r : List Fm) : neg (bypF (neg (.mk l r))) = match tur (.mk l r) [] r with | some m => .mk l m | none => .mk l r := by
  have h := byp_neg (.mk l r) r []
  have hL : (neg (.mk l r)).L = r.map neg := neg_L _
  have hR : (neg (.mk l r)).R = l.map neg := neg_R _
  unfold bypF
  rw [hL]
  rw [show ([] : List Fm).map neg = [] from rfl] at h
  rw [h, hR]
  cases tur (.mk l r) [] r with
  | none => exact neg_neg _
  | some m =>
    show neg (.mk (m.map neg) (l.map neg)) = .mk l m
    refine ext ?_ ?_
    · rw [neg_L]; exact map_neg_neg l
    · rw [neg_R]; exact map_neg_neg m
theorem byp_neg_is (l r : List Fm) : (byp (neg (.mk l r)) [] (neg (.mk l r)).L).isSome = (tur (.mk l r) [] r).isSome := by
  have h := byp_neg (.mk l r) r []
  have hL : (neg (.mk l r)).L = r.map neg := neg_L _
  rw [hL]
  rw [show ([] : List Fm).map neg = [] from rfl] at h
  rw [h]
  cases tur (.mk l r) [] r <;> rfl
structure CnG where
  hh : Hp
  y : FmH
  l : List Fm
  r : List Fm
  b : Bool
  n : Nat
theorem rcanon_ok : ∀ (n : Nat) (f : Fm), sz f ≤ n → n ≤ 10000 → RCan (M := M) f := by
  intro n
  induction n with
  | zero => intro f hf; have := sz_pos f; omega
  | succ n ih =>
    intro f hf hn h x hx
    have hl := lenL f
    have hr := lenR f
    have hsz := sz_eq f
    have hxl := hx.l
    have hxr := hx.r
    have sL : szs (f.L.map canon) ≤ szs f.L := szs_map_le fun g _ => (canon_ok g).2.2
    have sR : szs (f.R.map canon) ≤ szs f.R := szs_map_le fun g _ => (canon_ok g).2.2
    have hcan := canon_eq f
    have cL : ∀ g ∈ f.L, RCan (M := M) g := fun g hg => ih g (by have := sz_L hg; omega) (by omega)
    have cR : ∀ g ∈ f.R, RCan (M := M) g := fun g hg => ih g (by have := sz_R hg; omega) (by omega)
    have kL := fun h hv => rall_ok (M := M) f.L x.1 h hv (by omega) cL
    have kR := fun h hv => rall_ok (M := M) f.R x.2 h hv (by omega) cR
    refine ct16 ?_
    intro w0
    unfold s16
    (repeat (first | (refine Gs.box ?_; intro _) | (refine Gs.alloc ?_; intro _)))
    rename_i fb rb
    refine G.jnk (fun (j : Value) S' => ∃ (nb : Nat) (y : FmH) (h' : Hp), j = ptr nb 0 ∧ Hle h h' ∧ FmR h' y (.mk (f.L.map canon) (f.R.map canon)) ∧ S' = St w0 h h' [.blk nb [slv y.1, slv y.2, .bool true] 59, .blk rb [.slice none 0 0, .slice none 0 0] 28]) ?_ ?_
    · rintro _ _ ⟨nb, y, h', rfl, le', ry, rfl⟩
      refine G.jk ?_; intro _
      generalize f.L.map canon = l0 at *
      generalize f.R.map canon = r0 at *
      have hfin := fin_ref l0 r0
      dsimp only at hfin
      refine Gs.lp (β := CnG) (fun _ => ()) (fun u => u.hh) (fun u => [.blk nb [slv u.y.1, slv u.y.2, .bool u.b] 59, .blk rb [.slice none 0 0, .slice none 0 0] 28]) (fun u => Hle h u.hh ∧ FmR u.hh u.y (.mk u.l u.r) ∧ szs u.l + szs u.r ≤ 10000 ∧ (u.b = true → szs u.l + szs u.r < u.n ∧ loop u.n u.l u.r = loop (szs l0 + szs r0 + 1) l0 r0) ∧ (u.b = false → (u.l, u.r) = loop (szs l0 + szs r0 + 1) l0 r0)) (fun u => if u.b then szs u.l + szs u.r + 1 else 0) ⟨h', y, l0, r0, true, szs l0 + szs r0 + 1⟩ rfl ⟨le', ry, by dsimp only; omega, fun _ => ⟨by dsimp only; omega, rfl⟩, fun e => by cases e⟩ (fun _ s => s) ?_
      rintro ⟨hh, y1, l, r, b, N⟩ ⟨leh, ry1, hs, hb1, hb2⟩ cont hc
      dsimp only at leh ry1 hs hb1 hb2 hc ⊢
      refine G.jk ?_; intro _
      have hszm : sz (.mk l r) = 1 + szs l + szs r := by rw [sz_eq]; rfl
      cases b with
      | true =>
        obtain ⟨hN, hloop⟩ := hb1 rfl
        obtain ⟨N, rfl⟩ : ∃ k, N = k + 1 := ⟨N - 1, by omega⟩
        (repeat (first | refine G.step ?_ | refine G.ift ?_))
        refine Gs.call0 (bypassR_ok (.mk l r) y1 hh ry1 (by omega)) ?_
        rintro _ h2 le2 ⟨y2, rfl, ry2⟩
        have hby : byp (.mk l r) [] (Fm.mk l r).L = byp (.mk l r) [] l := rfl
        rw [hby]
        unfold bypF at ry2
        rw [hby] at ry2
        cases hbp : byp (.mk l r) [] l with
        | some m =>
          rw [hbp] at ry2
          rw [Option.isSome_some]
          have hm := byp_sz hbp
          have hgo := hc ⟨h2, y2, m, r, true, N⟩ ⟨leh.trans le2, ry2, by dsimp only; omega, fun _ => ⟨by dsimp only; omega, by dsimp only; rw [← hloop, loop_byp hbp]⟩, fun e => (by cases e)⟩ (by simp; omega)
          dsimp only at hgo
          (repeat (first | refine G.step ?_ | refine Gs.store ?_ | refine G.iff ?_))
          exact Gs.sel hgo
        | none =>
          rw [hbp] at ry2
          rw [Option.isSome_none]
          (repeat (first | refine G.step ?_ | refine Gs.store ?_ | refine G.ift ?_))
          refine Gs.call0 (rneg_ok (sz (.mk l r)) _ (Nat.le_refl _) (by omega) h2 y2 ry2) ?_
          rintro _ h3 le3 ⟨y3, rfl, ry3⟩
          refine Gs.call0 (bypassR_ok (neg (.mk l r)) y3 h3 ry3 (by rw [sz_neg]; omega)) ?_
          rintro _ h4 le4 ⟨y4, rfl, ry4⟩
          rw [byp_neg_is]
          have hs4 : sz (bypF (neg (.mk l r))) ≤ 20000 := by
            rw [← sz_neg, bypF_neg]
            cases htr : tur (.mk l r) [] r with
            | some m =>
              have hm := tur_sz htr
              have : sz (.mk l m) = 1 + szs l + szs m := by rw [sz_eq]; rfl
              show sz (.mk l m) ≤ 20000
              omega
            | none => show sz (.mk l r) ≤ 20000; omega
          (repeat (first | refine G.step ?_ | refine Gs.store ?_))
          refine Gs.call0 (rneg_ok (sz (bypF (neg (.mk l r)))) _ (Nat.le_refl _) (by omega) h4 y4 ry4) ?_
          rintro _ h5 le5 ⟨y5, rfl, ry5⟩
          rw [bypF_neg] at ry5
          have le25 := le2.trans (le3.trans (le4.trans le5))
          cases htr : tur (.mk l r) [] r with
          | some m =>
            rw [htr] at ry5
            rw [Option.isSome_some]
            have hm := tur_sz htr
            have hgo := hc ⟨h5, y5, l, m, true, N⟩ ⟨leh.trans le25, ry5, by dsimp only; omega, fun _ => ⟨by dsimp only; omega, by dsimp only; rw [← hloop, loop_tur hbp htr]⟩, fun e => (by cases e)⟩ (by simp; omega)
            dsimp only at hgo
            (repeat (first | refine G.step ?_ | refine Gs.store ?_))
            exact Gs.sel hgo
          | none =>
            rw [htr] at ry5
            rw [Option.isSome_none]
            have hgo := hc ⟨h5, y5, l, r, false, N⟩ ⟨leh.trans le25, ry5, hs, (fun e => (by cases e)), fun _ => by dsimp only; rw [← hloop, loop_end hbp htr]⟩ (by simp)
            dsimp only at hgo
            (repeat (first | refine G.step ?_ | refine Gs.store ?_))
            exact Gs.sel hgo
      | false =>
        have hend := hb2 rfl
        rw [← hend] at hfin
        dsimp only at hfin
        (repeat (first | refine G.step ?_ | refine G.iff ?_))
        refine Gs.call0 (rneg_ok (sz (.mk l r)) _ (Nat.le_refl _) (by omega) hh y1 ry1) ?_
        rintro _ h2 le2 ⟨y2, rfl, ry2⟩
        have rl2 := ry2.l
        rw [neg_L] at rl2
        (repeat (refine G.step ?_))
        refine Gs.call0 (bestR_ok y2.1 (r.map neg) h2 rl2 (by rw [szs_map (fun x _ => sz_neg x)]; omega)) ?_
        rintro _ h3 le3 ⟨q3, rfl, hq3⟩
        (repeat (refine G.step ?_))
        refine Gs.call0 (bestR_ok y1.1 l h3 (ry1.l.mono (le2.trans le3)) (by omega)) ?_
        rintro _ h4 le4 ⟨q4, rfl, hq4⟩
        have hs3 : szs (insS (best leq (r.map neg))) ≤ 10000 := by
          rw [szs_perm (insS_perm _)]
          have h1 := szs_sublist (best_sublist leq (r.map neg))
          have h2 : szs (r.map neg) = szs r := szs_map fun x _ => sz_neg x
          omega
        have rm : FmR h4 (q3, (none, 0, 0)) (.mk (insS (best leq (r.map neg))) []) := FmR_iff.2 ⟨hq3.mono le4, RdF.nil _ _ _ _⟩
        have hsm : sz (.mk (insS (best leq (r.map neg))) []) ≤ 10001 := by rw [sz_eq]; show 1 + szs (insS (best leq (r.map neg))) + 0 ≤ 10001; omega
        (repeat (refine G.step ?_))
        refine Gs.call0 (rneg_ok 10001 _ hsm (by decide) h4 (q3, (none, 0, 0)) rm) ?_
        rintro _ h5 le5 ⟨y6, rfl, ry6⟩
        have rr6 := ry6.r
        rw [neg_R] at rr6
        (repeat (refine G.step ?_))
        refine Gs.call0 (sortedR_ok y6.2 ((insS (best leq (r.map neg))).map neg) h5 rr6 (by rw [szs_map (fun x _ => sz_neg x)]; omega)) ?_
        rintro _ h6 le6 ⟨q7, rfl, hq7⟩
        (repeat (first | refine G.step ?_ | refine Gs.store ?_ | refine G.retc ?_))
        refine Gs.ret ⟨(q4, q7), rfl, ?_⟩
        rw [hcan, hfin]
        exact FmR_iff.2 ⟨hq4.mono (le5.trans le6), hq7⟩
    · intro k3 hk3
      have fin : ∀ nb (q r : SlH) h', Hle h h' → RdF h' (slv q) eFH 2 FmR (f.L.map canon) → RdF h' (slv r) eFH 2 FmR (f.R.map canon) → Gs w0 h h' [.blk nb [slv q, slv r, .bool true] 59, .blk rb [.slice none 0 0, .slice none 0 0] 28] (k3 (ptr nb 0)) := fun nb q r h' le' r1 r2 => hk3 _ _ ⟨nb, (q, r), h', rfl, le', FmR_iff.2 ⟨r1, r2⟩, rfl⟩
      (repeat (first | refine Gs.dr ?_ | refine G.qkp ?_ | refine Gs.qkb ?_))
      refine G.or2 ?_ ?_
      · refine Gs.call0 (kL h hxl) ?_
        rintro _ h1 le1 ⟨q, rfl, hq⟩
        (repeat (first | refine G.withT ?_ | refine Gs.withb ?_))
        refine G.or2 ?_ ?_
        · refine Gs.call0 (kR h1 (hxr.mono le1)) ?_
          rintro _ h2 le2 ⟨r, rfl, hr⟩
          (repeat (first | (refine Gs.alloc ?_; intro _) | refine Gs.store ?_ | refine G.qkp ?_ | refine G.withT ?_ | refine Gs.withb ?_))
          exact Gs.sel (fin _ q r h2 (le1.trans le2) (hq.mono le2) hr)
        · (repeat (first | (refine Gs.alloc ?_; intro _) | refine G.withT ?_ | refine Gs.withb ?_))
          refine Gs.call0 (kR h1 (hxr.mono le1)) ?_
          rintro _ h2 le2 ⟨r, rfl, hr⟩
          (repeat (first | refine Gs.store ?_ | refine G.qkp ?_))
          exact Gs.sel (fin _ q r h2 (le1.trans le2) (hq.mono le2) hr)
      · (repeat (first | (refine Gs.alloc ?_; intro _) | refine G.withT ?_ | refine Gs.withb ?_))
        refine Gs.call0 (kL h hxl) ?_
        rintro _ h1 le1 ⟨q, rfl, hq⟩
        (repeat (first | refine G.withT ?_ | refine Gs.withb ?_))
        refine Gs.call0 (kR h1 (hxr.mono le1)) ?_
        rintro _ h2 le2 ⟨r, rfl, hr⟩
        (repeat (first | refine Gs.store ?_ | refine G.qkp ?_))
        exact Gs.sel (fin _ q r h2 (le1.trans le2) (hq.mono le2) hr)
end Go.Proofs.YtgdochemlbjnlaaGreat
end

section
/-
  Values: the reference's numbers: forms of them, reading them; who wins.
-/
set_option linter.unusedVariables false
set_option linter.unusedSimpArgs false
set_option linter.unusedSectionVars false
set_option maxHeartbeats 2000000
set_option maxRecDepth 100000
namespace Go.Proofs.YtgdochemlbjnlaaGreat
open Go Go.Sk Go.Va Go.RowKit
open Go.Dy (strip Valid val btw validB cmpF cmpI)
variable {M : Go.Sk.Mode}
attribute [local irreducible] Go.Sk.vCall Go.Sk.Ct
theorem rwinner_ok (f : Fm) (x : FmH) (i : Int) (h : Hp) (hx : FmR h x f) (hn : sz f ≤ 20000) : Ct Tryz.prog 24 [vF x, I i] h (fun _ v => v = I (if i = 0 then (if leq f Va.zero then 1 else 0) else (if leq Va.zero f then 0 else 1))) := by
  refine ct24 ?_
  intro w0
  unfold s24
  have hz : sz Va.zero = 1 := rfl
  (repeat (first | refine G.step ?_ | (refine Gs.box ?_; intro _)))
  refine G.ifd ?_ ?_ <;> intro hi
  · (repeat (refine G.step ?_))
    refine Gs.callv0 (rleq_ok (sz f + 1) f Va.zero (by omega) (by omega) h x ((none, 0, 0), (none, 0, 0)) hx (FmR.zero h)) ?_
    rw [if_pos hi]
    cases leq f Va.zero
    · refine G.iff ?_
      exact Gs.ret rfl
    · refine G.ift ?_
      exact Gs.ret rfl
  · (repeat (refine G.step ?_))
    refine Gs.callv0 (rleq_ok (sz f + 1) Va.zero f (by omega) (by omega) h ((none, 0, 0), (none, 0, 0)) x (FmR.zero h) hx) ?_
    rw [if_neg hi]
    cases leq Va.zero f
    · refine G.iff ?_
      exact Gs.ret rfl
    · refine G.ift ?_
      exact Gs.ret rfl
theorem rform_ok : ∀ (N : Nat) (n : Int) (e : Nat), me (val n e) ≤ N → Vd n e → ∀ (h : Hp), Ct Tryz.prog 43 [Fr2 n e] h (fun h' v => ∃ y : FmH, v = vF y ∧ FmR h' y (ff (val n e))) := by
  intro N
  induction N with
  | zero =>
    intro n e hme hv h
    have hmv : me (val n e) = e + n.natAbs := by unfold me; rw [hv.nu.1, hv.nu.2]
    obtain rfl : e = 0 := by omega
    obtain rfl : n = 0 := by omega
    refine ct43 ?_
    intro w0
    unfold s43
    (repeat (first | refine G.step ?_ | (refine Gs.box ?_; intro _) | (refine Gs.alloc ?_; intro _) | refine Gs.store ?_ | refine G.retc ?_ | refine G.iff ?_))
    refine Gs.ret ⟨((none, 0, 0), (none, 0, 0)), rfl, ?_⟩
    rw [show val 0 0 = 0 from Go.Dy.val0 0, ff_zero]
    exact FmR.zero h
  | succ N ih =>
    intro n e hme hv h
    have hmv : me (val n e) = e + n.natAbs := by unfold me; rw [hv.nu.1, hv.nu.2]
    have hv' := hv
    obtain ⟨g1, g2, g3, g4⟩ := hv'
    refine ct43 ?_
    intro w0
    unfold s43
    by_cases he : 0 < e
    · obtain ⟨a1, a2⟩ := vd_strip (d := -1) hv he (.inr rfl)
      obtain ⟨c1, c2⟩ := vd_strip (d := 1) hv he (.inl rfl)
      have hx : 0 < ex (val n e) := by rw [hv.nu.2]; exact he
      rw [show n + -1 = n - 1 by omega] at a1 a2
      rw [show val n e + -1 * Va.un (val n e) = val n e - Va.un (val n e) by omega] at a2
      rw [Int.one_mul] at c2
      have mL := me_l (A := val n e) (.inl hx)
      have mR := me_r (A := val n e) (.inl hx)
      have kl := fun h => half_ok (M := M) (n - 1) e h (by omega) (by omega)
      have kr := fun h => half_ok (M := M) (n + 1) e h (by omega) (by omega)
      have jl := fun h => ih (strip e (n - 1)).1 (strip e (n - 1)).2 (by rw [a2]; omega) a1 h
      have jr := fun h => ih (strip e (n + 1)).1 (strip e (n + 1)).2 (by rw [c2]; omega) c1 h
      rw [a2] at jl
      rw [c2] at jr
      have hff : ∀ h' (q r : SlH), RdF h' (slv q) eFH 2 FmR [ff (val n e - Va.un (val n e))] → RdF h' (slv r) eFH 2 FmR [ff (val n e + Va.un (val n e))] → FmR h' (q, r) (ff (val n e)) := fun h' q r r1 r2 => FmR_iff.2 ⟨by rw [ff_L, if_pos (.inl hx)]; exact r1, by rw [ff_R, if_pos (.inl hx)]; exact r2⟩
      generalize strip e (n - 1) = sl_ at *
      generalize strip e (n + 1) = sr_ at *
      (repeat (first | refine G.step ?_ | (refine Gs.box ?_; intro _) | (refine Gs.alloc ?_; intro _) | refine Gs.dr ?_ | refine G.qadd (by omega) ?_ | refine G.qsub (by omega) ?_ | refine G.qkp ?_ | refine Gs.qkb ?_ | refine G.ify (by first | (simp; done) | omega) ?_))
      refine Gs.callv0 (kl h) ?_
      (repeat (first | refine G.withT ?_ | refine Gs.withb ?_))
      refine Gs.call0 (jl h) ?_
      rintro _ h1 le1 ⟨y1, rfl, r1⟩
      (repeat (first | refine G.withT ?_ | refine Gs.withb ?_))
      refine G.or2 ?_ ?_
      · refine Gs.buildSlice (out := eFH y1) (by decide) ?_
        intro b1
        (repeat (first | refine G.withT ?_ | refine Gs.withb ?_))
        refine Gs.callv0 (kr h1) ?_
        skip
        refine Gs.call0 (jr h1) ?_
        rintro _ h2 le2 ⟨y2, rfl, r2⟩
        skip
        refine Gs.buildSlice (out := eFH y2) (by decide) ?_
        intro b2
        (repeat (first | refine Gs.store ?_ | refine G.retc ?_ | refine G.qkp ?_))
        skip
        refine Gs.freezeE (enc := eFH) (v := .slice (some ⟨b1, 0, none⟩) 1 1) (l := [y1]) (by decide) ?_
        intro h3 le3 f1
        refine Gs.freezeE (enc := eFH) (v := .slice (some ⟨b2, 0, none⟩) 1 1) (l := [y2]) (by decide) ?_
        intro h4 le4 f2
        exact Gs.ret ⟨((some ⟨b1, 0, none⟩, 1, 1), (some ⟨b2, 0, none⟩, 1, 1)), rfl, hff h4 _ _ ⟨[y1], f1.mono le4, .cons (r1.mono (le2.trans (le3.trans le4))) .nil⟩ ⟨[y2], f2, .cons (r2.mono (le3.trans le4)) .nil⟩⟩
      · refine Gs.callv0 (kr h1) ?_
        skip
        refine G.or2 ?_ ?_
        · refine Gs.buildSlice (out := eFH y1) (by decide) ?_
          intro b1
          (repeat (first | refine G.withT ?_ | refine Gs.withb ?_))
          refine Gs.call0 (jr h1) ?_
          rintro _ h2 le2 ⟨y2, rfl, r2⟩
          skip
          refine Gs.buildSlice (out := eFH y2) (by decide) ?_
          intro b2
          (repeat (first | refine Gs.store ?_ | refine G.retc ?_ | refine G.qkp ?_))
          skip
          refine Gs.freezeE (enc := eFH) (v := .slice (some ⟨b1, 0, none⟩) 1 1) (l := [y1]) (by decide) ?_
          intro h3 le3 f1
          refine Gs.freezeE (enc := eFH) (v := .slice (some ⟨b2, 0, none⟩) 1 1) (l := [y2]) (by decide) ?_
          intro h4 le4 f2
          exact Gs.ret ⟨((some ⟨b1, 0, none⟩, 1, 1), (some ⟨b2, 0, none⟩, 1, 1)), rfl, hff h4 _ _ ⟨[y1], f1.mono le4, .cons (r1.mono (le2.trans (le3.trans le4))) .nil⟩ ⟨[y2], f2, .cons (r2.mono (le3.trans le4)) .nil⟩⟩
        · refine Gs.call0 (jr h1) ?_
          rintro _ h2 le2 ⟨y2, rfl, r2⟩
          skip
          refine G.or2 ?_ ?_
          · refine Gs.buildSlice (out := eFH y1) (by decide) ?_
            intro b1
            (repeat (first | refine G.withT ?_ | refine Gs.withb ?_))
            refine Gs.buildSlice (out := eFH y2) (by decide) ?_
            intro b2
            (repeat (first | refine Gs.store ?_ | refine G.retc ?_ | refine G.qkp ?_))
            skip
            refine Gs.freezeE (enc := eFH) (v := .slice (some ⟨b1, 0, none⟩) 1 1) (l := [y1]) (by decide) ?_
            intro h3 le3 f1
            refine Gs.freezeE (enc := eFH) (v := .slice (some ⟨b2, 0, none⟩) 1 1) (l := [y2]) (by decide) ?_
            intro h4 le4 f2
            exact Gs.ret ⟨((some ⟨b1, 0, none⟩, 1, 1), (some ⟨b2, 0, none⟩, 1, 1)), rfl, hff h4 _ _ ⟨[y1], f1.mono le4, .cons (r1.mono (le2.trans (le3.trans le4))) .nil⟩ ⟨[y2], f2, .cons (r2.mono (le3.trans le4)) .nil⟩⟩
          · refine Gs.buildSlice (out := eFH y2) (by decide) ?_
            intro b2
            skip
            refine Gs.buildSlice (out := eFH y1) (by decide) ?_
            intro b1
            (repeat (first | refine Gs.store ?_ | refine G.retc ?_ | refine G.qkp ?_ | refine G.withT ?_ | refine Gs.withb ?_))
            skip
            refine Gs.freezeE (enc := eFH) (v := .slice (some ⟨b1, 0, none⟩) 1 1) (l := [y1]) (by decide) ?_
            intro h3 le3 f1
            refine Gs.freezeE (enc := eFH) (v := .slice (some ⟨b2, 0, none⟩) 1 1) (l := [y2]) (by decide) ?_
            intro h4 le4 f2
            exact Gs.ret ⟨((some ⟨b1, 0, none⟩, 1, 1), (some ⟨b2, 0, none⟩, 1, 1)), rfl, hff h4 _ _ ⟨[y1], f1.mono le4, .cons (r1.mono (le2.trans (le3.trans le4))) .nil⟩ ⟨[y2], f2, .cons (r2.mono (le3.trans le4)) .nil⟩⟩
    · obtain rfl : e = 0 := by omega
      have hex : ex (val n 0) = 0 := hv.nu.2
      have hun : Va.un (val n 0) = 1073741824 := un_int hex
      have hval : ∀ k : Int, val k 0 = k * 1073741824 := fun k => by unfold Go.Dy.val; rw [show (2 : Int) ^ (30 - 0) = 1073741824 by decide]
      by_cases hp : 0 < n
      · have hvn : Vd (n - 1) 0 := ⟨by decide, .inl rfl, by omega, by omega⟩
        have hmn : me (val (n - 1) 0) ≤ N := by unfold me; rw [hvn.nu.1, hvn.nu.2]; omega
        (repeat (first | refine G.sub (by omega) ?_ | refine G.step ?_ | (refine Gs.box ?_; intro _) | (refine Gs.alloc ?_; intro _) | refine G.iff ?_ | refine G.ify (by first | (simp; done) | omega) ?_))
        refine Gs.call0 (ih (n - 1) 0 hmn hvn h) ?_
        rintro _ h1 le1 ⟨y1, rfl, r1⟩
        refine Gs.buildSlice (out := eFH y1) (by decide) ?_
        intro b1
        refine sl1 r1 ?_
        intro h2 le2 r2
        (repeat (first | refine G.step ?_ | refine Gs.store ?_ | refine G.retc ?_))
        refine Gs.ret ⟨((some ⟨b1, 0, none⟩, 1, 1), (none, 0, 0)), rfl, FmR_iff.2 ⟨?_, ?_⟩⟩
        · rw [ff_L, if_pos (.inr (by rw [hval]; omega)), hun, show val n 0 - 1073741824 = val (n - 1) 0 by rw [hval, hval]; omega]; exact r2
        · rw [ff_R, if_neg (by rw [hex, hval]; omega)]; exact RdF.nil _ _ _ _
      · by_cases hm : n < 0
        · have hvn : Vd (n + 1) 0 := ⟨by decide, .inl rfl, by omega, by omega⟩
          have hmn : me (val (n + 1) 0) ≤ N := by unfold me; rw [hvn.nu.1, hvn.nu.2]; omega
          (repeat (first | refine G.add (by omega) ?_ | refine G.step ?_ | (refine Gs.box ?_; intro _) | (refine Gs.alloc ?_; intro _) | refine G.iff ?_ | refine G.ify (by first | (simp; done) | omega) ?_ | refine G.ifn (by first | (simp; done) | omega) ?_))
          refine Gs.call0 (ih (n + 1) 0 hmn hvn h) ?_
          rintro _ h1 le1 ⟨y1, rfl, r1⟩
          refine Gs.buildSlice (out := eFH y1) (by decide) ?_
          intro b1
          refine sl1 r1 ?_
          intro h2 le2 r2
          (repeat (first | refine G.step ?_ | refine Gs.store ?_ | refine G.retc ?_))
          refine Gs.ret ⟨((none, 0, 0), (some ⟨b1, 0, none⟩, 1, 1)), rfl, FmR_iff.2 ⟨?_, ?_⟩⟩
          · rw [ff_L, if_neg (by rw [hex, hval]; omega)]; exact RdF.nil _ _ _ _
          · rw [ff_R, if_pos (.inr (by rw [hval]; omega)), hun, show val n 0 + 1073741824 = val (n + 1) 0 by rw [hval, hval]; omega]; exact r2
        · obtain rfl : n = 0 := by omega
          (repeat (first | refine G.step ?_ | (refine Gs.box ?_; intro _) | (refine Gs.alloc ?_; intro _) | refine Gs.store ?_ | refine G.retc ?_ | refine G.iff ?_))
          refine Gs.ret ⟨((none, 0, 0), (none, 0, 0)), rfl, ?_⟩
          rw [show val 0 0 = 0 from Go.Dy.val0 0, ff_zero]
          exact FmR.zero h
theorem rof_bad (n e : Int) (h : Hp) (hv : validB n e = false) : Ct Tryz.prog 22 [Fr2 n e] h (fun _ v => v = .tuple #[vF ((none, 0, 0), (none, 0, 0)), I 190]) := by
  refine ct22 ?_
  intro w0
  unfold s22
  (repeat (first | refine G.step ?_ | (refine Gs.box ?_; intro _) | (refine Gs.alloc ?_; intro _)))
  refine Gs.callv0 (Q.rvalid_ok n e h) ?_
  rw [hv]
  (repeat (first | refine G.step ?_ | refine Gs.store ?_ | refine G.retc ?_ | refine G.ift ?_))
  exact Gs.ret rfl
theorem rof_ok (n : Int) (e : Nat) (h : Hp) (hv : Vd n e) : Ct Tryz.prog 22 [Fr2 n e] h (fun h' v => OfP h' n e v) := by
  have hvb : validB n e = true := (Go.Dy.validB_iff n e).2 ⟨hv.1, by have := hv.2.2.1; omega, by have := hv.2.2.2; omega, hv.2.1⟩
  refine ct22 ?_
  intro w0
  unfold s22
  (repeat (first | refine G.step ?_ | (refine Gs.box ?_; intro _) | (refine Gs.alloc ?_; intro _)))
  refine Gs.callv0 (Q.rvalid_ok n e h) ?_
  rw [hvb]
  (repeat (first | refine G.step ?_ | refine G.iff ?_))
  refine Gs.call0 (long_ok e n e (Nat.le_refl _) hv 2000 h (by decide) (by decide)) ?_
  rintro _ h1 le1 ⟨r, rfl, k1, k2, k3, k4⟩
  (repeat (refine G.step ?_))
  refine G.ifd ?_ ?_ <;> intro hr
  · (repeat (first | refine G.step ?_ | refine Gs.store ?_ | refine G.retc ?_))
    refine Gs.ret (.inr ⟨?_, rfl⟩)
    by_cases hle : (sz (ff (val n e)) : Int) ≤ 2000
    · have := k3 hle; omega
    · omega
  · (repeat (refine G.step ?_))
    refine Gs.call0 (rform_ok _ n e (Nat.le_refl _) hv h1) ?_
    rintro _ h2 le2 ⟨y, rfl, ry⟩
    (repeat (first | refine Gs.store ?_ | refine G.retc ?_))
    refine Gs.ret (.inl ⟨?_, y, rfl, ry⟩)
    by_cases hle : (sz (ff (val n e)) : Int) ≤ 2000
    · omega
    · have := k4 (by omega); omega
/-! ### Reading -/
abbrev vR (r : Rd3) : Value := .agg #[I r.1, I r.2.1, .bool r.2.2]
theorem rwhole_ok (n : Int) (h : Hp) (hv : validB n 0 = true) : Ct Tryz.prog 57 [I n] h (fun _ v => v = vR (n, 0, true)) := by
  refine ct57 ?_
  intro w0
  unfold s57
  (repeat (first | refine G.step ?_ | (refine Gs.alloc ?_; intro _) | refine Gs.store ?_))
  refine Gs.callv0 (Q.rvalid_ok n 0 h) ?_
  rw [hv]
  (repeat (first | refine G.step ?_ | refine Gs.store ?_ | refine G.retc ?_ | refine G.iff ?_))
  exact Gs.ret rfl
theorem valid0 {n : Int} {e : Int} (h : 0 ≤ e ∧ Valid n e.toNat) (he : e = 0) : validB n 0 = true := by
  subst he
  exact (Go.Dy.validB_iff n 0).2 h.2
def ReadOk [M : Go.Sk.Mode] (f : Fm) : Prop := ∀ (h : Hp) (x : FmH), FmR h x f → Ct Tryz.prog 38 [vF x] h (fun _ v => v = vR (numF f))
theorem read_l {a : Fm} (na : NV a) (ra : ReadOk (M := M) a) (hs : sz (.mk [a] []) ≤ 100000) (hnv : NV (.mk [a] [])) : ReadOk (M := M) (.mk [a] []) := by
  intro h x hx
  have hxl : RdF h (slv x.1) eFH 2 FmR [a] := hx.l
  have hxr : RdF h (slv x.2) eFH 2 FmR [] := hx.r
  have hnum : numF (.mk [a] []) = if (numF a).2.2 = true then ((numF a).1 + 1, 0, true) else (0, 0, false) := (numF_eq _).trans rfl
  have hval := hnv.v
  refine ct38 ?_
  intro w0
  unfold s38
  (repeat (first | (refine Gs.box ?_; intro _) | (refine Gs.alloc ?_; intro _)))
  rename_i fb rb
  refine G.jnP (fun j => j = .bool false) ?_ ?_
  · rintro _ rfl
    refine G.jk ?_; intro _
    (repeat (first | refine G.step ?_ | refine G.iff ?_))
    refine Gs.callv0 (zero_ok (.mk [a] []) x h hx (hs)) ?_
    rw [decide_eq_false (show ¬ (Fm.mk [a] [] = Va.zero) from fun e => by injection e with e1 e2; cases e1)]
    (repeat (first | refine G.step ?_ | (refine Gs.alloc ?_; intro _) | refine Gs.store ?_ | refine G.iff ?_))
    rename_i ab bb
    refine G.jnk (fun (_ : Unit) S' => S' = St w0 h h [.blk bb [I 0, I 0, .bool false] 63, .blk ab [I (numF a).1, I (numF a).2.1, .bool (numF a).2.2] 63, .blk rb [I 0, I 0, .bool false] 63, .blk fb [slv x.1, slv x.2] 28]) ?_ ?_
    · rintro _ _ rfl
      refine G.jk ?_; intro _
      refine G.jnk (fun (_ : Unit) S' => S' = St w0 h h [.blk bb [I 0, I 0, .bool false] 63, .blk ab [I (numF a).1, I (numF a).2.1, .bool (numF a).2.2] 63, .blk rb [I 0, I 0, .bool false] 63, .blk fb [slv x.1, slv x.2] 28]) ?_ ?_
      · rintro _ _ rfl
        refine G.jk ?_; intro _
        refine G.jnP (fun j => j = .bool (!(numF a).2.2)) ?_ ?_
        · rintro _ rfl
          refine G.jk ?_; intro _
          refine G.ifb ?_ ?_ <;> intro hbad
          · (repeat (first | refine G.step ?_ | refine Gs.store ?_ | refine G.retc ?_))
            refine Gs.ret ?_
            rw [hnum, if_neg (by simpa using hbad)]
          · have ha : (numF a).2.2 = true := by simpa using hbad
            rw [hnum, if_pos ha] at hval ⊢
            have hv0 := valid0 (hval rfl) rfl
            have hb1 := na.v ha
            have hbd : -1099511627776 ≤ (numF a).1 ∧ (numF a).1 ≤ 1099511627776 := ⟨hb1.2.2.1, hb1.2.2.2.1⟩
            (repeat (refine G.step ?_))
            refine Gs.lenF hxr (by simp) ?_
            (repeat (first | refine G.add (by omega) ?_ | refine G.step ?_ | refine G.ift ?_))
            refine Gs.callv0 (rwhole_ok ((numF a).1 + 1) h hv0) ?_
            (repeat (first | refine Gs.store ?_ | refine G.retc ?_))
            exact Gs.ret rfl
        · intro k18 hk18
          (repeat (refine G.step ?_))
          refine Gs.lenF hxl (by simp) ?_
          (repeat (first | refine G.step ?_ | refine G.gdtt ?_))
          cases hq : (numF a).2.2 with
          | false => rw [hq] at hk18; (repeat (refine G.gdtf ?_)); exact hk18 _ rfl
          | true =>
            rw [hq] at hk18
            (repeat (first | refine G.step ?_ | refine G.gdff ?_))
            refine Gs.lenF hxr (by simp) ?_
            (repeat (first | refine G.step ?_ | refine G.gdft ?_))
            exact hk18 _ rfl
      · intro k17 hk17
        (repeat (refine G.step ?_))
        refine Gs.lenF hxr (by simp) ?_
        (repeat (first | refine G.step ?_ | refine G.iff ?_))
        exact hk17 () _ rfl
    · intro k16 hk16
      (repeat (refine G.step ?_))
      refine Gs.lenF hxl (by simp) ?_
      (repeat (first | refine G.step ?_ | refine G.ift ?_))
      refine Gs.indexF hxl (i := 0) (by simp) ?_
      intro b2 o2 x2 hp2 hx2
      refine Gs.loadE hp2 ?_
      refine Gs.callv0 (ra h x2 hx2) ?_
      (repeat (refine Gs.store ?_))
      exact Gs.sel (L' := [.blk bb [I 0, I 0, .bool false] 63, .blk ab [I (numF a).1, I (numF a).2.1, .bool (numF a).2.2] 63, .blk rb [I 0, I 0, .bool false] 63, .blk fb [slv x.1, slv x.2] 28]) (hk16 () _ rfl)
  · intro k3 hk3
    (repeat (refine G.step ?_))
    refine Gs.lenF hxl (by simp) ?_
    (repeat (first | refine G.step ?_ | refine G.gdff ?_))
    refine Gs.lenF hxr (by simp) ?_
    (repeat (refine G.step ?_))
    exact hk3 _ (by simp)
theorem read_r {b : Fm} (nb : NV b) (rb_ : ReadOk (M := M) b) (hs : sz (.mk [] [b]) ≤ 100000) (hnv : NV (.mk [] [b])) : ReadOk (M := M) (.mk [] [b]) := by
  intro h x hx
  have hxl : RdF h (slv x.1) eFH 2 FmR [] := hx.l
  have hxr : RdF h (slv x.2) eFH 2 FmR [b] := hx.r
  have hnum : numF (.mk [] [b]) = if (numF b).2.2 = true then ((numF b).1 - 1, 0, true) else (0, 0, false) := (numF_eq _).trans rfl
  have hval := hnv.v
  refine ct38 ?_
  intro w0
  unfold s38
  (repeat (first | (refine Gs.box ?_; intro _) | (refine Gs.alloc ?_; intro _)))
  rename_i fb rb
  refine G.jnP (fun j => j = .bool false) ?_ ?_
  · rintro _ rfl
    refine G.jk ?_; intro _
    (repeat (first | refine G.step ?_ | refine G.iff ?_))
    refine Gs.callv0 (zero_ok (.mk [] [b]) x h hx (hs)) ?_
    rw [decide_eq_false (show ¬ (Fm.mk [] [b] = Va.zero) from fun e => by injection e with e1 e2; cases e2)]
    (repeat (first | refine G.step ?_ | (refine Gs.alloc ?_; intro _) | refine Gs.store ?_ | refine G.iff ?_))
    rename_i ab bb
    refine G.jnk (fun (_ : Unit) S' => S' = St w0 h h [.blk bb [I 0, I 0, .bool false] 63, .blk ab [I 0, I 0, .bool false] 63, .blk rb [I 0, I 0, .bool false] 63, .blk fb [slv x.1, slv x.2] 28]) ?_ ?_
    · rintro _ _ rfl
      refine G.jk ?_; intro _
      refine G.jnk (fun (_ : Unit) S' => S' = St w0 h h [.blk bb [I (numF b).1, I (numF b).2.1, .bool (numF b).2.2] 63, .blk ab [I 0, I 0, .bool false] 63, .blk rb [I 0, I 0, .bool false] 63, .blk fb [slv x.1, slv x.2] 28]) ?_ ?_
      · rintro _ _ rfl
        refine G.jk ?_; intro _
        refine G.jnP (fun j => j = .bool (!(numF b).2.2)) ?_ ?_
        · rintro _ rfl
          refine G.jk ?_; intro _
          refine G.ifb ?_ ?_ <;> intro hbad
          · (repeat (first | refine G.step ?_ | refine Gs.store ?_ | refine G.retc ?_))
            refine Gs.ret ?_
            rw [hnum, if_neg (by simpa using hbad)]
          · have ha : (numF b).2.2 = true := by simpa using hbad
            rw [hnum, if_pos ha] at hval ⊢
            have hv0 := valid0 (hval rfl) rfl
            have hb1 := nb.v ha
            have hbd : -1099511627776 ≤ (numF b).1 ∧ (numF b).1 ≤ 1099511627776 := ⟨hb1.2.2.1, hb1.2.2.2.1⟩
            (repeat (refine G.step ?_))
            refine Gs.lenF hxr (by simp) ?_
            (repeat (first | refine G.step ?_ | refine G.iff ?_))
            refine Gs.lenF hxl (by simp) ?_
            (repeat (first | refine G.sub (by omega) ?_ | refine G.step ?_ | refine G.ift ?_))
            refine Gs.callv0 (rwhole_ok ((numF b).1 - 1) h hv0) ?_
            (repeat (first | refine Gs.store ?_ | refine G.retc ?_))
            exact Gs.ret rfl
        · intro k18 hk18
          (repeat (refine G.step ?_))
          refine Gs.lenF hxl (by simp) ?_
          (repeat (first | refine G.step ?_ | refine G.gdft ?_))
          refine Gs.lenF hxr (by simp) ?_
          (repeat (first | refine G.step ?_ | refine G.gdtt ?_))
          exact hk18 _ rfl
      · intro k17 hk17
        (repeat (refine G.step ?_))
        refine Gs.lenF hxr (by simp) ?_
        (repeat (first | refine G.step ?_ | refine G.ift ?_))
        refine Gs.indexF hxr (i := 0) (by simp) ?_
        intro b2 o2 x2 hp2 hx2
        refine Gs.loadE hp2 ?_
        refine Gs.callv0 (rb_ h x2 hx2) ?_
        (repeat (refine Gs.store ?_))
        exact Gs.sel (L' := [.blk bb [I (numF b).1, I (numF b).2.1, .bool (numF b).2.2] 63, .blk ab [I 0, I 0, .bool false] 63, .blk rb [I 0, I 0, .bool false] 63, .blk fb [slv x.1, slv x.2] 28]) (hk17 () _ rfl)
    · intro k16 hk16
      (repeat (refine G.step ?_))
      refine Gs.lenF hxl (by simp) ?_
      (repeat (first | refine G.step ?_ | refine G.iff ?_))
      exact hk16 () _ rfl
  · intro k3 hk3
    (repeat (refine G.step ?_))
    refine Gs.lenF hxl (by simp) ?_
    (repeat (first | refine G.step ?_ | refine G.gdff ?_))
    refine Gs.lenF hxr (by simp) ?_
    (repeat (refine G.step ?_))
    exact hk3 _ (by simp)
theorem read_b {a : Fm} {b : Fm} (na : NV a) (ra : ReadOk (M := M) a) (nb : NV b) (rb_ : ReadOk (M := M) b) (hs : sz (.mk [a] [b]) ≤ 100000) (hnv : NV (.mk [a] [b])) : ReadOk (M := M) (.mk [a] [b]) := by
  intro h x hx
  have hxl : RdF h (slv x.1) eFH 2 FmR [a] := hx.l
  have hxr : RdF h (slv x.2) eFH 2 FmR [b] := hx.r
  have hnum : numF (.mk [a] [b]) = if ((numF a).2.2 && (numF b).2.2) = true then (if val (numF b).1 (numF b).2.1.toNat ≤ val (numF a).1 (numF a).2.1.toNat then (0, 0, false) else ((btw (val (numF a).1 (numF a).2.1.toNat) (val (numF b).1 (numF b).2.1.toNat)).1, (btw (val (numF a).1 (numF a).2.1.toNat) (val (numF b).1 (numF b).2.1.toNat)).2.1, decide ((btw (val (numF a).1 (numF a).2.1.toNat) (val (numF b).1 (numF b).2.1.toNat)).2.2 = 0))) else (0, 0, false) := (numF_eq _).trans rfl
  have hval := hnv.v
  refine ct38 ?_
  intro w0
  unfold s38
  (repeat (first | (refine Gs.box ?_; intro _) | (refine Gs.alloc ?_; intro _)))
  rename_i fb rb
  refine G.jnP (fun j => j = .bool false) ?_ ?_
  · rintro _ rfl
    refine G.jk ?_; intro _
    (repeat (first | refine G.step ?_ | refine G.iff ?_))
    refine Gs.callv0 (zero_ok (.mk [a] [b]) x h hx (hs)) ?_
    rw [decide_eq_false (show ¬ (Fm.mk [a] [b] = Va.zero) from fun e => by injection e with e1 e2; cases e1)]
    (repeat (first | refine G.step ?_ | (refine Gs.alloc ?_; intro _) | refine Gs.store ?_ | refine G.iff ?_))
    rename_i ab bb
    refine G.jnk (fun (_ : Unit) S' => S' = St w0 h h [.blk bb [I 0, I 0, .bool false] 63, .blk ab [I (numF a).1, I (numF a).2.1, .bool (numF a).2.2] 63, .blk rb [I 0, I 0, .bool false] 63, .blk fb [slv x.1, slv x.2] 28]) ?_ ?_
    · rintro _ _ rfl
      refine G.jk ?_; intro _
      refine G.jnk (fun (_ : Unit) S' => S' = St w0 h h [.blk bb [I (numF b).1, I (numF b).2.1, .bool (numF b).2.2] 63, .blk ab [I (numF a).1, I (numF a).2.1, .bool (numF a).2.2] 63, .blk rb [I 0, I 0, .bool false] 63, .blk fb [slv x.1, slv x.2] 28]) ?_ ?_
      · rintro _ _ rfl
        refine G.jk ?_; intro _
        refine G.jnP (fun j => j = .bool (!(numF a).2.2 || !(numF b).2.2)) ?_ ?_
        · rintro _ rfl
          refine G.jk ?_; intro _
          refine G.ifb ?_ ?_ <;> intro hbad
          · (repeat (first | refine G.step ?_ | refine Gs.store ?_ | refine G.retc ?_))
            refine Gs.ret ?_
            rw [hnum, if_neg (by cases h1 : (numF a).2.2 <;> cases h2 : (numF b).2.2 <;> simp_all)]
          · have hab : (numF a).2.2 = true ∧ (numF b).2.2 = true := by simpa using hbad
            obtain ⟨ha, hb⟩ := hab
            have va := na.v ha
            have vb := nb.v hb
            obtain ⟨ea, hea⟩ : ∃ k : Nat, (numF a).2.1 = k := ⟨(numF a).2.1.toNat, by omega⟩
            obtain ⟨eb, heb⟩ : ∃ k : Nat, (numF b).2.1 = k := ⟨(numF b).2.1.toNat, by omega⟩
            rw [hea, Int.toNat_natCast] at va
            rw [heb, Int.toNat_natCast] at vb
            rw [hnum]
            rw [ha, hb, Bool.and_self, if_pos rfl, hea, heb, Int.toNat_natCast, Int.toNat_natCast]
            generalize (numF a).1 = nA at *
            generalize (numF b).1 = nB at *
            have hcmp : (0 ≤ cmpF nA ea nB eb) ↔ val nB eb ≤ val nA ea := by
              rw [Go.Dy.cmp_val nA ea nB eb va.2.1 vb.2.1]
              unfold Go.Dy.cmpI
              split
              · omega
              · split <;> omega
            (repeat (refine G.step ?_))
            refine Gs.lenF hxr (by simp) ?_
            (repeat (first | refine G.step ?_ | refine G.iff ?_))
            refine Gs.lenF hxl (by simp) ?_
            (repeat (first | refine G.step ?_ | refine G.iff ?_))
            refine Gs.callv0 (Q.rcompare_ok nA ea nB eb h va.2 vb.2) ?_
            (repeat (refine G.step ?_))
            refine G.ifd ?_ ?_ <;> intro hge
            · (repeat (first | refine G.step ?_ | refine Gs.store ?_ | refine G.retc ?_))
              exact Gs.ret (by rw [if_pos (hcmp.1 hge)])
            · rw [if_neg (fun h => hge (hcmp.2 h))]
              (repeat (refine G.step ?_))
              refine Gs.callv0 (Q.rBetween_ok nA ea nB eb h va.2 vb.2) ?_
              rcases btw_cases (val nA ea) (val nB eb) with hbt | ⟨n, k, hbt, _⟩
              · rw [hbt]
                (repeat (first | refine G.step ?_ | (refine Gs.alloc ?_; intro _) | refine Gs.store ?_ | refine G.retc ?_ | refine G.ift ?_))
                exact Gs.ret rfl
              · rw [hbt]
                (repeat (first | refine G.step ?_ | (refine Gs.alloc ?_; intro _) | refine Gs.store ?_ | refine G.retc ?_ | refine G.iff ?_))
                exact Gs.ret rfl
        · intro k18 hk18
          (repeat (refine G.step ?_))
          refine Gs.lenF hxl (by simp) ?_
          (repeat (first | refine G.step ?_ | refine G.gdtt ?_))
          cases hq : (numF a).2.2 with
          | false => rw [hq] at hk18; (repeat (refine G.gdtf ?_)); exact hk18 _ rfl
          | true =>
            rw [hq] at hk18
            (repeat (first | refine G.step ?_ | refine G.gdff ?_))
            refine Gs.lenF hxr (by simp) ?_
            (repeat (first | refine G.step ?_ | refine G.gdtt ?_))
            exact hk18 _ (by simp)
      · intro k17 hk17
        (repeat (refine G.step ?_))
        refine Gs.lenF hxr (by simp) ?_
        (repeat (first | refine G.step ?_ | refine G.ift ?_))
        refine Gs.indexF hxr (i := 0) (by simp) ?_
        intro b2 o2 x2 hp2 hx2
        refine Gs.loadE hp2 ?_
        refine Gs.callv0 (rb_ h x2 hx2) ?_
        (repeat (refine Gs.store ?_))
        exact Gs.sel (L' := [.blk bb [I (numF b).1, I (numF b).2.1, .bool (numF b).2.2] 63, .blk ab [I (numF a).1, I (numF a).2.1, .bool (numF a).2.2] 63, .blk rb [I 0, I 0, .bool false] 63, .blk fb [slv x.1, slv x.2] 28]) (hk17 () _ rfl)
    · intro k16 hk16
      (repeat (refine G.step ?_))
      refine Gs.lenF hxl (by simp) ?_
      (repeat (first | refine G.step ?_ | refine G.ift ?_))
      refine Gs.indexF hxl (i := 0) (by simp) ?_
      intro b2 o2 x2 hp2 hx2
      refine Gs.loadE hp2 ?_
      refine Gs.callv0 (ra h x2 hx2) ?_
      (repeat (refine Gs.store ?_))
      exact Gs.sel (L' := [.blk bb [I 0, I 0, .bool false] 63, .blk ab [I (numF a).1, I (numF a).2.1, .bool (numF a).2.2] 63, .blk rb [I 0, I 0, .bool false] 63, .blk fb [slv x.1, slv x.2] 28]) (hk16 () _ rfl)
  · intro k3 hk3
    (repeat (refine G.step ?_))
    refine Gs.lenF hxl (by simp) ?_
    (repeat (first | refine G.step ?_ | refine G.gdff ?_))
    refine Gs.lenF hxr (by simp) ?_
    (repeat (refine G.step ?_))
    exact hk3 _ (by simp)
theorem read_zero (h : Hp) (x : FmH) (hx : FmR h x Va.zero) : Ct Tryz.prog 38 [vF x] h (fun _ v => v = vR (0, 0, true)) := by
  have hxl : RdF h (slv x.1) eFH 2 FmR [] := hx.l
  have hxr : RdF h (slv x.2) eFH 2 FmR [] := hx.r
  refine ct38 ?_
  intro w0
  unfold s38
  (repeat (first | (refine Gs.box ?_; intro _) | (refine Gs.alloc ?_; intro _)))
  refine G.jnP (fun j => j = .bool false) ?_ ?_
  · rintro _ rfl
    refine G.jk ?_; intro _
    (repeat (first | refine G.step ?_ | refine G.iff ?_))
    refine Gs.callv0 (zero_ok Va.zero x h hx (by decide)) ?_
    rw [decide_eq_true rfl]
    (repeat (refine G.ift ?_))
    refine Gs.callv0 (rwhole_ok 0 h (by decide +kernel)) ?_
    (repeat (first | refine Gs.store ?_ | refine G.retc ?_))
    exact Gs.ret rfl
  · intro k3 hk3
    (repeat (refine G.step ?_))
    refine Gs.lenF hxl (by simp) ?_
    (repeat (first | refine G.step ?_ | refine G.gdff ?_))
    refine Gs.lenF hxr (by simp) ?_
    (repeat (refine G.step ?_))
    exact hk3 _ (by simp)
theorem read_many (f : Fm) (h : Hp) (x : FmH) (hx : FmR h x f) (hn : sz f ≤ 100000) (hm : 1 < f.L.length ∨ 1 < f.R.length) : Ct Tryz.prog 38 [vF x] h (fun _ v => v = vR (0, 0, false)) := by
  have hl := lenL f
  have hr := lenR f
  refine ct38 ?_
  intro w0
  unfold s38
  (repeat (first | (refine Gs.box ?_; intro _) | (refine Gs.alloc ?_; intro _)))
  refine G.jnP (fun j => j = .bool true) ?_ ?_
  · rintro _ rfl
    refine G.jk ?_; intro _
    (repeat (first | refine G.step ?_ | refine Gs.store ?_ | refine G.retc ?_ | refine G.ift ?_))
    exact Gs.ret rfl
  · intro k3 hk3
    (repeat (refine G.step ?_))
    refine Gs.lenF hx.l (by omega) ?_
    (repeat (refine G.step ?_))
    refine G.gddf ?_ ?_ <;> intro c1
    · exact hk3 _ rfl
    · (repeat (refine G.step ?_))
      refine Gs.lenF hx.r (by omega) ?_
      (repeat (refine G.step ?_))
      exact hk3 _ (by rw [decide_eq_true]; omega)
theorem read_ok : ∀ (n : Nat) (f : Fm), sz f ≤ n → n ≤ 100000 → NV f → ReadOk (M := M) f := by
  intro n
  induction n with
  | zero => intro f hf; have := sz_pos f; omega
  | succ n ih =>
    intro f hf hn hnv
    have ihL : ∀ x ∈ f.L, ReadOk (M := M) x := fun x hx => ih x (by have := sz_L hx; omega) (by omega) (hnv.l x hx)
    have ihR : ∀ x ∈ f.R, ReadOk (M := M) x := fun x hx => ih x (by have := sz_R hx; omega) (by omega) (hnv.r x hx)
    by_cases hm : 1 < f.L.length ∨ 1 < f.R.length
    · intro h x hx
      have := read_many (M := M) f h x hx (by omega) hm
      rw [show numF f = (0, 0, false) by rw [numF_eq]; exact numC_many (by simpa using hm)]
      exact this
    · obtain ⟨l, r⟩ := f
      change ¬ (1 < l.length ∨ 1 < r.length) at hm
      match l, r, hm with
      | [], [], _ => exact fun h x hx => read_zero h x hx
      | [a], [], _ => exact read_l (hnv.l a (by simp [Fm.L])) (ihL a (by simp [Fm.L])) (by omega) hnv
      | [], [b], _ => exact read_r (hnv.r b (by simp [Fm.R])) (ihR b (by simp [Fm.R])) (by omega) hnv
      | [a], [b], _ => exact read_b (hnv.l a (by simp [Fm.L])) (ihL a (by simp [Fm.L])) (hnv.r b (by simp [Fm.R])) (ihR b (by simp [Fm.R])) (by omega) hnv
      | _ :: _ :: _, _, hm => exact absurd hm (by simp)
      | [], _ :: _ :: _, hm => exact absurd hm (by simp)
      | [_], _ :: _ :: _, hm => exact absurd hm (by simp)
theorem rNumber_ok (f : Fm) (x : FmH) (h : Hp) (hx : FmR h x f) (hn : sz f ≤ 10000) (hnv : NV (canon f)) : Ct Tryz.prog 20 [vF x] h (fun _ v => v = Num3 (numF (canon f))) := by
  refine ct20 ?_
  intro w0
  unfold s20
  have hc := (canon_ok f).2.2
  (repeat (first | refine G.step ?_ | (refine Gs.box ?_; intro _) | (refine Gs.alloc ?_; intro _)))
  refine Gs.call0 (rcanon_ok (sz f) f (Nat.le_refl _) hn h x hx) ?_
  rintro _ h1 le1 ⟨y, rfl, ry⟩
  refine Gs.callv0 (read_ok (sz (canon f)) _ (Nat.le_refl _) (by omega) hnv h1 y ry) ?_
  generalize numF (canon f) = r
  (repeat (first | (refine Gs.alloc ?_; intro _) | refine Gs.store ?_ | refine G.retc ?_ | refine Gs.dr ?_ | refine G.qkp ?_ | refine Gs.qkb ?_ | refine G.withT ?_ | refine Gs.withb ?_))
  exact Gs.ret rfl
end Go.Proofs.YtgdochemlbjnlaaGreat
end

