/-
  Lemmas for the proof of the statement of this claim: a part of the road, no statement of its own. Conditions: those that each lemma names.
-/
import Derived.Test.YtcmokdokcghooaaGreatDoorKi
section
set_option linter.unusedVariables false
set_option maxHeartbeats 4000000
namespace Go.Proofs.YtcmokdokcghooaaGreatDoor
open Go Go.Sk Go.Pr Go.Ps Go.RowKit
def cntK (l : List Int) (s : Int) (k : Nat) : Int := ((l.filter (manB s k)).length : Int)
def sumK (l : List Int) : Nat → Int
  | 0 => 0
  | i + 1 => sumK l i + (cntK l 0 i + cntK l 1 i)
def zerK (l : List Int) : Int := ((l.filter fun n => decide (n = 0)).length : Int)
theorem cntK_cons (n : Int) (l : List Int) (s : Int) (k : Nat) : cntK (n :: l) s k = cntK l s k + if 0 < n ∧ (n - 1) % 2 = s ∧ (n - 1) / 2 = k then 1 else 0 := by
  unfold cntK
  rw [List.filter_cons]
  unfold manB
  by_cases h : 0 < n ∧ (n - 1) % 2 = s ∧ (n - 1) / 2 = k
  · simp [h]
  · simp [h]
theorem sumK_cons (n : Int) (l : List Int) : ∀ i : Nat, sumK (n :: l) i = sumK l i + if 0 < n ∧ (n - 1) / 2 < i then 1 else 0
  | 0 => by
    simp only [sumK]
    rw [if_neg (by omega)]
    rfl
  | i + 1 => by
    simp only [sumK, sumK_cons n l i, cntK_cons]
    have h2 : (n - 1) % 2 = 0 ∨ (n - 1) % 2 = 1 := by omega
    by_cases h0 : 0 < n
    · rcases Int.lt_trichotomy ((n - 1) / 2) i with h | h | h
      · rw [if_pos ⟨h0, h⟩, if_neg (by omega), if_neg (by omega), if_pos ⟨h0, by omega⟩]
        omega
      · rcases h2 with e | e
        · rw [if_neg (by omega), if_pos ⟨h0, e, h⟩, if_neg (by omega), if_pos ⟨h0, by omega⟩]
          omega
        · rw [if_neg (by omega), if_neg (by omega), if_pos ⟨h0, e, h⟩, if_pos ⟨h0, by omega⟩]
          omega
      · rw [if_neg (by omega), if_neg (by omega), if_neg (by omega), if_neg (by omega)]
        omega
    · rw [if_neg (by omega), if_neg (by omega), if_neg (by omega), if_neg (by omega)]
      omega
theorem sum_all (K : Nat) : ∀ l : List Int, (∀ n ∈ l, 0 ≤ n ∧ n ≤ 2 * K) → sumK l K + zerK l = l.length
  | [], _ => by
    have : ∀ i, sumK [] i = 0 := by
      intro i
      induction i with
      | zero => rfl
      | succ i ih => simp [sumK, ih, cntK]
    rw [this]
    simp [zerK]
  | n :: l, h => by
    have ih := sum_all K l fun m hm => h m (by simp [hm])
    have hn := h n (by simp)
    rw [sumK_cons]
    unfold zerK at *
    rw [List.filter_cons]
    by_cases h0 : n = 0
    · rw [if_neg (by omega), if_pos (by simp [h0])]
      simp only [List.length_cons]
      omega
    · rw [if_pos ⟨by omega, by omega⟩, if_neg (by simp [h0])]
      simp only [List.length_cons]
      omega
theorem zerK_snoc (l : List Int) (n : Int) : zerK (l ++ [n]) = zerK l + if n = 0 then 1 else 0 := by
  unfold zerK
  rw [List.filter_append]
  by_cases h : n = 0
  · simp [h]
  · simp [h]
theorem sumK_bd (l : List Int) : ∀ i, 0 ≤ sumK l i
  | 0 => by simp [sumK]
  | i + 1 => by
    have := sumK_bd l i
    unfold sumK cntK
    omega
theorem cntK_set (l : List Int) (c : Nat) (hc : c < l.length) (h0 : l[c] = 0) (k : Nat) (side : Int) (kind : Nat) (hs : side = 0 ∨ side = 1) (s : Int) : cntK (l.set c (1 + 2 * (kind : Int) + side)) s k = cntK l s k + if s = side ∧ k = kind then 1 else 0 := by
  have e : l = l.take c ++ (l[c] :: l.drop (c + 1)) := by rw [← List.drop_eq_getElem_cons hc, List.take_append_drop]
  have e2 : l.set c (1 + 2 * (kind : Int) + side) = l.take c ++ ((1 + 2 * (kind : Int) + side) :: l.drop (c + 1)) := by rw [List.set_eq_take_append_cons_drop, if_pos hc]
  have ap : ∀ a b : List Int, cntK (a ++ b) s k = cntK a s k + cntK b s k := fun a b => by unfold cntK; rw [List.filter_append]; simp
  rw [e2, ap, cntK_cons]
  have h1 : cntK l s k = cntK (l.take c) s k + cntK (l.drop (c + 1)) s k := by
    have : cntK l s k = cntK (l.take c ++ (l[c] :: l.drop (c + 1))) s k := congrArg (fun z => cntK z s k) e
    rw [this, ap, cntK_cons, h0, if_neg (by omega)]
    omega
  rw [h1]
  by_cases hh : s = side ∧ k = kind
  · rw [if_pos hh, if_pos ⟨by omega, by omega, by omega⟩]
    omega
  · rw [if_neg hh, if_neg (by omega)]
    omega
theorem counts_cnt (l : List Int) (K : Nat) (side : Int) (k : Nat) (hk : k < (counts l K side).length) : (counts l K side)[k] = cntK l side k := counts_get l K side k hk
instance ix220 {S : WP} {b o : Nat} : Yd Tryz.prog S (V (Instr.indexAt 78 (ptr b o) (.int .i64 0))) (ptr b o) := Yd.ixA (sz := 1) (e := 5) (n := 2) ⟨by decide, by decide⟩ rfl
instance ix221 {S : WP} {b o c : Nat} [hc : AddN o 1 c] : Yd Tryz.prog S (V (Instr.indexAt 78 (ptr b o) (.int .i64 1))) (ptr b c) := Yd.ixA (sz := 1) (e := 5) (n := 2) ⟨by decide, by decide⟩ hc.ok
theorem cnt_le (l : List Int) (s : Int) (k : Nat) : 0 ≤ cntK l s k ∧ cntK l s k ≤ l.length := by
  unfold cntK
  have := List.length_filter_le (manB s k) l
  omega
theorem sumK_le (l : List Int) : ∀ i, sumK l i ≤ 2 * i * l.length
  | 0 => by simp [sumK]
  | i + 1 => by
    have := sumK_le l i
    have h0 := cnt_le l 0 i
    have h1 := cnt_le l 1 i
    unfold sumK
    have e : 2 * ((i + 1 : Nat) : Int) * (l.length : Int) = 2 * i * l.length + (l.length + l.length) := by
      rw [show ((i + 1 : Nat) : Int) = (i : Int) + 1 by omega, Int.mul_add, Int.add_mul, Int.mul_one]
      omega
    rw [e]
    omega
theorem counts9_ok (x : RwG) (b0 b1 : List UInt8) (C : List (UInt8 × UInt8 × UInt8)) (r : Nat → UInt8) (va vb' : UInt8) (h : Hp) (hE : Env h) (hx : RgR h x b0 b1 C) : Ct Tryz.prog 9 [vRg x, vRw r, .agg #[.int .u8 va.toNat, .int .u8 vb'.toNat]] h (fun _ y => y = .bool true) := by
  refine ct9 ?_
  intro w0
  unfold s9
  have f0 := u8lt va
  have f1 := u8lt vb'
  (repeat (refine Gs.box ?_; intro _))
  rename_i xb yb vb
  refine Gs.callv0 (sanity_ok h hE) ?_
  (repeat (refine G.step ?_))
  refine Gs.call0 (made3_ok x b0 b1 C h hx) ?_
  rintro _ h1 le1 ⟨xg, g, rfl, hg, hG⟩
  have hk1 := hG.k.l1
  have hk2 := hG.k.l2
  have hr2 := hG.r
  have hc1 := hG.b.c1
  have hc9 := hG.b.c9
  (repeat (first | refine G.step ?_ | (refine Gs.alloc ?_; intro _) | refine Gs.store ?_))
  rename_i gb
  refine Gs.call0 (made4_ok g xg r h1 hg hG) ?_
  rintro _ h2 le2 ⟨y, p, rfl, hp, hpv⟩
  have hg2 := hg.mono le2
  have hbd : ∀ n ∈ p.c, n ≤ 2 * g.kinds.length ∧ -1 ≤ n := fun n hn => by have := hpv.cc n hn; omega
  obtain ⟨z1, z2, z3⟩ := hpv.lens
  (repeat (first | refine G.step ?_ | (refine Gs.alloc ?_; intro _) | refine Gs.store ?_))
  rename_i pb
  refine Gs.call0 (pcount_ok g xg y p 0 h2 hg2 (by omega) hp hbd) ?_
  intro v3 h3 le3 r3
  (repeat (refine G.step ?_))
  refine Gs.call0 (pcount_ok g xg y p 1 h3 (hg2.mono le3) (by omega) (hp.mono le3) hbd) ?_
  intro v4 h4 le4 r4
  have r3 := r3.mono le4
  have hg4 := (hg2.mono le3).mono le4
  have hp4 := (hp.mono le3).mono le4
  have cl0 := counts_len p.c g.kinds.length 0
  have cl1 := counts_len p.c g.kinds.length 1
  have hsum := sum_all g.kinds.length p.c hpv.cc
  refine G.jnP (fun j => j = .bool false) ?_ ?_
  · rintro j rfl
    refine G.jk ?_; intro _
    (repeat (refine G.iff ?_))
    refine Gs.lp (β := Nat) (fun i => (I (sumK p.c i), I i)) (fun _ => h4) (fun _ => [.blk pb [slv y.1, slv y.2.1, slv y.2.2.1, I y.2.2.2.1, I y.2.2.2.2] 44, .blk gb [I g.cells, slv xg.1, slv xg.2.1, slv xg.2.2.1, I g.rights, .bool g.must, slv xg.2.2.2, I g.blocked, I g.endless] 39, .blk vb [.int .u8 va.toNat, .int .u8 vb'.toNat] 78]) (fun i => i ≤ g.kinds.length) (fun i => g.kinds.length - i) 0 rfl (Nat.zero_le _) (fun _ s => s.sub (by simp)) ?_
    intro i hi cont hc
    have sb := sumK_bd p.c i
    have sl := sumK_le p.c i
    have sl' : sumK p.c i ≤ 36 := by
      have hl : (p.c.length : Int) ≤ 9 := by omega
      have hi' : i = 0 ∨ i = 1 ∨ i = 2 := by omega
      rcases hi' with rfl | rfl | rfl <;> omega
    (repeat (refine G.jk ?_; intro _))
    refine Gs.lenE r3 (by omega) ?_
    (repeat (refine G.step ?_))
    refine G.ifd ?_ ?_ <;> intro hlt
    · have hi0 : i < (counts p.c g.kinds.length 0).length := by omega
      have hi1 : i < (counts p.c g.kinds.length 1).length := by omega
      have c0 := cnt_le p.c 0 i
      have c1 := cnt_le p.c 1 i
      (repeat (refine Gs.dr ?_))
      refine Gs.qindexE r3 hi0 ?_
      intro b o hpt
      refine Gs.qloadE hpt ?_
      refine Gs.qindexE r4 hi1 ?_
      intro b' o' hpt'
      refine Gs.qloadE hpt' ?_
      rw [counts_cnt, counts_cnt]
      (repeat (first | refine G.add (by omega) ?_ | refine G.qadd (by omega) ?_))
      exact Gs.goS (hc (i + 1) (by omega) (by omega)) rfl
    · have hik : i = g.kinds.length := by omega
      subst hik
      clear hc
      refine Gs.lp (β := Nat) (fun i => (I (sumK p.c g.kinds.length + zerK (p.c.take i)), I i)) (fun _ => h4) (fun _ => [.blk pb [slv y.1, slv y.2.1, slv y.2.2.1, I y.2.2.2.1, I y.2.2.2.2] 44, .blk gb [I g.cells, slv xg.1, slv xg.2.1, slv xg.2.2.1, I g.rights, .bool g.must, slv xg.2.2.2, I g.blocked, I g.endless] 39, .blk vb [.int .u8 va.toNat, .int .u8 vb'.toNat] 78]) (fun i => i ≤ p.c.length) (fun i => p.c.length - i) 0 (by simp [zerK]) (Nat.zero_le _) (fun _ s => s) ?_
      intro i hi cont hc
      have zb : 0 ≤ zerK (p.c.take i) ∧ zerK (p.c.take i) ≤ i := by
        unfold zerK
        have := List.length_filter_le (fun n => decide (n = 0)) (p.c.take i)
        rw [List.length_take] at this
        omega
      (repeat (first | refine G.step ?_ | (refine G.jk ?_; intro _)))
      refine Gs.lenE hp4.c (by omega) ?_
      (repeat (refine G.step ?_))
      refine G.ifd ?_ ?_ <;> intro hlt
      · have hi' : i < p.c.length := by omega
        have hsn : p.c.take (i + 1) = p.c.take i ++ [p.c[i]] := (List.take_append_getElem hi').symm
        refine G.jnP (fun j => j = I (sumK p.c g.kinds.length + zerK (p.c.take (i + 1)))) ?_ ?_
        · rintro j rfl
          refine G.jk ?_; intro _
          (repeat (refine G.add (by omega) ?_))
          exact Gs.goS (hc (i + 1) (by omega) (by omega)) rfl
        · intro K hK
          (repeat (refine G.step ?_))
          refine Gs.indexE hp4.c hi' ?_
          intro b o hpt
          refine Gs.loadE hpt ?_
          (repeat (refine G.step ?_))
          refine G.ifd ?_ ?_ <;> intro h0
          · (repeat (refine G.add (by omega) ?_))
            refine hK _ ?_
            rw [hsn, zerK_snoc, if_pos h0]
            congr 1
            omega
          · refine hK _ ?_
            rw [hsn, zerK_snoc, if_neg h0, Int.add_zero]
      · have hip : i = p.c.length := by omega
        subst hip
        clear hc
        rw [List.take_length]
        (repeat (first | refine G.conv (by omega) ?_ | refine G.step ?_))
        refine Gs.lenE hp4.c (by omega) ?_
        refine G.rem (by omega) ?_
        rw [Int.tmod_eq_emod_of_nonneg (by omega)]
        obtain ⟨c, hc', hcl⟩ : ∃ c : Nat, (va.toNat : Int) % (p.c.length : Int) = c ∧ c < p.c.length := ⟨va.toNat % p.c.length, by simp, Nat.mod_lt _ (by omega)⟩
        rw [hc']
        (repeat (refine G.step ?_))
        refine G.quo8 (by omega) (by omega) ?_
        refine G.conv (by omega) ?_
        (repeat (refine G.step ?_))
        refine Gs.lenF hg4.k (by omega) ?_
        refine G.rem (by omega) ?_
        rw [Int.tmod_eq_emod_of_nonneg (by omega)]
        obtain ⟨kind, hkd, hkdl⟩ : ∃ k : Nat, (vb'.toNat : Int) / 2 % (g.kinds.length : Int) = k ∧ k < g.kinds.length := ⟨vb'.toNat / 2 % g.kinds.length, by simp, Nat.mod_lt _ (by omega)⟩
        rw [hkd]
        (repeat (refine G.step ?_))
        refine G.rem8 (by omega) (by omega) ?_
        refine G.conv (by omega) ?_
        have hsd : (vb'.toNat : Int) % 2 = 0 ∨ (vb'.toNat : Int) % 2 = 1 := by omega
        generalize (vb'.toNat : Int) % 2 = side at *
        (repeat (refine G.step ?_))
        refine Gs.indexE hp4.c hcl ?_
        intro b o hpt
        refine Gs.loadE hpt ?_
        (repeat (refine G.step ?_))
        refine G.ifd ?_ ?_ <;> intro h0
        · (repeat (first | refine G.step ?_ | refine G.gdtt ?_))
          exact Gs.ret (by rw [decide_eq_true (by omega)])
        · have h0' : p.c[c] = 0 := by omega
          (repeat (first | refine G.step ?_ | (refine Gs.alloc ?_; intro _) | refine Gs.store ?_))
          rename_i qb
          refine Gs.buildSlice (by decide) ?_
          intro q0
          (repeat (refine G.step ?_))
          refine Gs.appendR (enc := eInt) (l := []) (m := p.c) (v := .slice (some ⟨q0, 0, none⟩) 0 0) hp4.c (by simp; omega) (by simp; omega) ?_
          intro q1
          refine Gs.slH (v := q1) ?_
          rintro qv rfl
          simp only [List.nil_append]
          (repeat (first | refine G.add (by omega) ?_ | refine G.mul (by omega) ?_ | refine G.step ?_ | refine Gs.store ?_))
          refine Gs.setE (enc := eInt) (l := p.c) (a := 1 + 2 * (kind : Int) + side) (i := c) hcl ?_
          intro _
          refine Gs.freezeE (v := slv qv) (enc := eInt) (l := p.c.set c (1 + 2 * (kind : Int) + side)) (by decide) ?_
          intro h5 le5 r5
          have hq5 : posR h5 (qv, y.2.1, y.2.2.1, y.2.2.2.1, y.2.2.2.2) ⟨p.c.set c (1 + 2 * (kind : Int) + side), p.a, p.b, p.r, p.s⟩ := ⟨r5, hp4.a.mono le5, hp4.b.mono le5, hp4.r, hp4.s, by show (p.c.set c _).length ≤ _; rw [List.length_set]; exact hp4.lc, hp4.la, hp4.lb⟩
          have hp5 := hp4.mono le5
          have hg5 := hg4.mono le5
          have hbd2 : ∀ n ∈ p.c.set c (1 + 2 * (kind : Int) + side), n ≤ 2 * g.kinds.length ∧ -1 ≤ n := fun n hn => by
            rcases List.mem_or_eq_of_mem_set hn with hn | rfl
            · exact hbd n hn
            · omega
          refine Gs.lp (β := Nat × Hp) (fun u => I u.1) (fun u => u.2) (fun _ => [.blk qb [slv qv, slv y.2.1, slv y.2.2.1, I y.2.2.2.1, I y.2.2.2.2] 44, .blk pb [slv y.1, slv y.2.1, slv y.2.2.1, I y.2.2.2.1, I y.2.2.2.2] 44, .blk gb [I g.cells, slv xg.1, slv xg.2.1, slv xg.2.2.1, I g.rights, .bool g.must, slv xg.2.2.2, I g.blocked, I g.endless] 39]) (fun u => u.1 ≤ 2 ∧ Hle h5 u.2) (fun u => 2 - u.1) (0, h5) rfl ⟨by simp, Hle.refl _⟩ (fun _ s => s.sub (by simp)) ?_
          rintro ⟨s, h6⟩ ⟨hs2, le6⟩ cont3 hc3
          dsimp only at *
          have hq6 := hq5.mono le6
          have hp6 := hp5.mono le6
          have hg6 := hg5.mono le6
          (repeat (first | refine G.step ?_ | (refine G.jk ?_; intro _)))
          refine G.ifd ?_ ?_ <;> intro hslt
          · (repeat (refine G.step ?_))
            refine Gs.call0 (pcount_ok g xg y p s h6 hg6 (by omega) hp6 hbd) ?_
            intro v7 h7 le7 r7
            (repeat (refine G.step ?_))
            refine Gs.call0 (pcount_ok g xg (qv, y.2.1, y.2.2.1, y.2.2.2.1, y.2.2.2.2) _ s h7 (hg6.mono le7) (by omega) (hq6.mono le7) hbd2) ?_
            intro v8 h8 le8 r8
            have r7 := r7.mono le8
            have r8 : RdE h8 v8 eInt 1 (counts (p.c.set c (1 + 2 * (kind : Int) + side)) g.kinds.length s) := r8
            have d0 := counts_len p.c g.kinds.length s
            have d1 := counts_len (p.c.set c (1 + 2 * (kind : Int) + side)) g.kinds.length s
            refine Gs.lenE r8 (by omega) ?_
            refine Gs.lenE r7 (by omega) ?_
            (repeat (refine G.step ?_))
            refine G.ifn (by rw [d0, d1]; simp) ?_
            refine Gs.lp (β := Nat) (fun k => I k) (fun _ => h8) (fun _ => [.blk qb [slv qv, slv y.2.1, slv y.2.2.1, I y.2.2.2.1, I y.2.2.2.2] 44, .blk pb [slv y.1, slv y.2.1, slv y.2.2.1, I y.2.2.2.1, I y.2.2.2.2] 44, .blk gb [I g.cells, slv xg.1, slv xg.2.1, slv xg.2.2.1, I g.rights, .bool g.must, slv xg.2.2.2, I g.blocked, I g.endless] 39]) (fun k => k ≤ g.kinds.length) (fun k => g.kinds.length - k) 0 rfl (Nat.zero_le _) (fun _ s => s) ?_
            intro k hk cont4 hc4
            (repeat (refine G.jk ?_; intro _))
            refine Gs.lenE r7 (by omega) ?_
            (repeat (refine G.step ?_))
            refine G.ifd ?_ ?_ <;> intro hklt
            · have hk7 : k < (counts p.c g.kinds.length s).length := by omega
              have hk8 : k < (counts (p.c.set c (1 + 2 * (kind : Int) + side)) g.kinds.length s).length := by omega
              have hset := cntK_set p.c c hcl h0' k side kind hsd s
              have cb := cnt_le p.c s k
              refine G.jnP (fun j => j = I (if (s : Int) = side ∧ k = kind then 1 else 0)) ?_ ?_
              · rintro j rfl
                refine G.jk ?_; intro _
                have hib : 0 ≤ (if (s : Int) = side ∧ k = kind then (1 : Int) else 0) ∧ (if (s : Int) = side ∧ k = kind then (1 : Int) else 0) ≤ 1 := by split <;> omega
                generalize (if (s : Int) = side ∧ k = kind then (1 : Int) else 0) = mo at *
                (repeat (refine Gs.dr ?_))
                refine Gs.qindexE r8 hk8 ?_
                intro b1 o1 hpt1
                refine Gs.qloadE hpt1 ?_
                refine Gs.qindexE r7 hk7 ?_
                intro b2 o2 hpt2
                refine Gs.qloadE hpt2 ?_
                rw [counts_cnt, counts_cnt, hset]
                (repeat (first | refine G.qadd (by omega) ?_ | refine G.qkp ?_))
                refine G.ifn (by simp) ?_
                (repeat (refine G.add (by omega) ?_))
                exact Gs.goS (hc4 (k + 1) (by omega) (by omega)) rfl
              · intro K hK
                refine G.jnP (fun j => j = .bool (decide ((s : Int) = side ∧ k = kind))) ?_ ?_
                · rintro j rfl
                  refine G.jk ?_; intro _
                  refine G.ifd ?_ ?_ <;> intro hh
                  · exact hK _ (by rw [if_pos hh])
                  · exact hK _ (by rw [if_neg hh])
                · intro K' hK'
                  (repeat (refine G.step ?_))
                  refine G.gddt ?_ ?_ <;> intro h1'
                  · (repeat (refine G.step ?_))
                    exact hK' _ (by congr 1; rw [decide_eq_decide]; omega)
                  · exact hK' _ (by rw [decide_eq_false (by omega)])
            · (repeat (refine G.add (by omega) ?_))
              exact Gs.goS (hc3 (s + 1, h8) ⟨by dsimp only; omega, (le6.trans le7).trans le8⟩ (by dsimp only; omega)) rfl
          · (repeat (first | refine G.step ?_ | refine G.gdtt ?_))
            exact Gs.ret (by rw [decide_eq_true (by omega)])
  · intro K hK
    refine Gs.lenE r3 (by omega) ?_
    (repeat (refine G.step ?_))
    refine Gs.lenF hg4.k (by omega) ?_
    (repeat (refine G.step ?_))
    refine G.gdyf (by rw [cl0]; simp) ?_
    refine Gs.lenE r4 (by omega) ?_
    (repeat (refine G.step ?_))
    refine Gs.lenF hg4.k (by omega) ?_
    (repeat (refine G.step ?_))
    exact hK _ (by rw [cl1]; simp)
end Go.Proofs.YtcmokdokcghooaaGreatDoor
end

section
set_option linter.unusedVariables false
set_option maxRecDepth 100000
namespace Go.Proofs.YtcmokdokcghooaaGreatDoor
open Go Go.Sk Go.Pr Go.Ps Go.RowKit Go.WideShapes Go.ChangeShapes Go.ChangeAt
theorem bytes2_open {H : Type} {enc : TypeId × Value → H} {W : World} {base : Nat} {v : Value} {d : DataW H} {p : List MemPlace} (hval : Value.okWide Tryz.prog W .any base 78 v) (h : DataW.Trod enc Tryz.prog W 0 (fun _ => true) true 78 v d p) : ∃ a b : UInt8, v = .agg #[.int .u8 a.toNat, .int .u8 b.toNat] := by
  obtain ⟨cs, rfl, hsz⟩ := okWide_arr Tryz.underlying78 hval
  obtain ⟨fuel, hf⟩ := h
  obtain ⟨l⟩ := cs
  obtain ⟨zs, hz, hcs⟩ := arr_at (m := 2) Tryz.underlying78 (by kernel_rfl) hf
  match zs, hz with
  | [a, b], _ =>
    have : l = [.int .u8 a.toNat, .int .u8 b.toNat] := hcs
    subst this
    exact ⟨a, b, rfl⟩
end Go.Proofs.YtcmokdokcghooaaGreatDoor
end

