/-
  Lemmas for the proof of the statement of this claim: a part of the road, no statement of its own. Conditions: those that each lemma names.
-/
import Derived.Test.YtcmokdokcghooaaGreatDoorKi
section
set_option linter.unusedVariables false
set_option maxHeartbeats 4000000
namespace Go.Proofs.YtcmokdokcghooaaGreatDoor
open Go Go.Sk Go.Pr Go.Ps Go.RowKit
/-- A position whose lists may be of any length. -/
structure posW (h : Hp) (x : PosH) (p : Pt) : Prop where
  c : RdE h (slv x.1) eInt 1 p.c
  a : RdE h (slv x.2.1) eInt 1 p.a
  b : RdE h (slv x.2.2.1) eInt 1 p.b
  r : x.2.2.2.1 = p.r
  s : x.2.2.2.2 = p.s
  lc : p.c.length ≤ 9223372036854775807
  la : p.a.length ≤ 9223372036854775807
  lb : p.b.length ≤ 9223372036854775807
theorem cmpLW_ok (l m : List Int) (x y : Value) (h : Hp) (hx : RdE h x eInt 1 l) (hy : RdE h y eInt 1 m) (hl : l.length ≤ 9223372036854775807) (hm : m.length ≤ 9223372036854775807) : Ct Tryz.prog 57 [x, y] h (fun _ v => v = I (cmpL l m)) := by
  refine ct57 ?_
  intro w0
  unfold s57
  refine Gs.lenE hx (by omega) ?_
  refine Gs.lp (β := Nat) (fun i => I i) (fun _ => h) (fun _ => []) (fun i => i ≤ l.length ∧ i ≤ m.length ∧ cmpL (l.drop i) (m.drop i) = cmpL l m) (fun i => l.length - i) 0 rfl ⟨Nat.zero_le _, Nat.zero_le _, rfl⟩ (fun _ h => h) ?_
  rintro i ⟨hi, hi2, hR⟩ cont hc
  (repeat (first | refine G.step ?_ | (refine G.jk ?_; intro _)))
  refine G.ifd ?_ ?_ <;> intro hlt
  · have h1 : i < l.length := by omega
    refine Gs.indexE hx h1 ?_
    intro b o hp
    refine Gs.loadE hp ?_
    refine Gs.lenE hy (by omega) ?_
    (repeat (refine G.step ?_))
    refine G.ifd ?_ ?_ <;> intro hge
    · exact Gs.ret (by rw [← hR, cmpL_end1 h1 (by omega)])
    · have h2 : i < m.length := by omega
      refine Gs.indexE hy h2 ?_
      intro b' o' hp'
      refine Gs.loadE hp' ?_
      refine Gs.callv0 (cmpI_ok _ _ h) ?_
      (repeat (refine G.step ?_))
      have hd := cmpL_drop h1 h2
      refine G.ifd ?_ ?_ <;> intro hne
      · exact Gs.ret (by rw [← hR, hd, if_pos hne])
      · (repeat (refine G.add (by omega) ?_))
        refine Gs.go (hc (i + 1) ⟨by omega, by omega, ?_⟩ (by omega)) rfl
        rw [← hR, hd, if_neg hne]
  · refine Gs.lenE hx (by omega) ?_
    refine Gs.lenE hy (by omega) ?_
    (repeat (refine G.step ?_))
    refine G.ifd ?_ ?_ <;> intro hlt2
    · exact Gs.ret (by rw [← hR, cmpL_end2 (by omega) (by omega)])
    · exact Gs.ret (by rw [← hR, cmpL_end0 (by omega) (by omega)])
theorem cmpPW_ok (x y : PosH) (p q : Pt) (h : Hp) (hx : posW h x p) (hy : posW h y q) : Ct Tryz.prog 24 [vPos x, vPos y] h (fun _ v => v = I (cmpP p q)) := by
  refine ct24 ?_
  intro w0
  unfold s24
  (repeat (first | (refine Gs.box ?_; intro _) | refine Gs.dr ?_ | refine G.qkp ?_ | refine Gs.qkb ?_))
  refine Gs.callv0 (cmpLW_ok p.c q.c _ _ h hx.c hy.c hx.lc hy.lc) ?_
  (repeat (first | refine G.withT ?_ | refine Gs.withb ?_))
  refine Gs.callv0 (cmpLW_ok p.a q.a _ _ h hx.a hy.a hx.la hy.la) ?_
  (repeat (first | refine G.withT ?_ | refine Gs.withb ?_))
  refine Gs.callv0 (cmpLW_ok p.b q.b _ _ h hx.b hy.b hx.lb hy.lb) ?_
  (repeat (first | refine G.withT ?_ | refine Gs.withb ?_))
  refine Gs.callv0 (cmpI_ok _ _ h) ?_
  (repeat (first | refine G.withT ?_ | refine Gs.withb ?_))
  refine Gs.callv0 (cmpI_ok _ _ h) ?_
  rw [hx.r, hx.s, hy.r, hy.s]
  refine Gs.buildSlice (by decide) ?_
  intro b
  refine Gs.freezeE (v := .slice (some ⟨b, 0, none⟩) 5 5) (enc := eInt) (l := [cmpL p.c q.c, cmpL p.a q.a, cmpL p.b q.b, cmpI p.r q.r, cmpI p.s q.s]) (by decide) ?_
  intro h' hle hr
  refine Gs.callv0 (or_ok _ _ h' hr (by simp)) ?_
  exact Gs.ret rfl
theorem intsW_ok (l m : List Int) (x y : Value) (h : Hp) (hx : RdE h x eInt 1 l) (hy : RdE h y eInt 1 m) (hl : l.length ≤ 9223372036854775807) (hm : m.length ≤ 9223372036854775807) : Ct Tryz.prog 32 [x, y] h (fun _ v => v = .bool (decide (l = m))) := by
  refine ct32 ?_
  intro w0
  unfold s32
  refine Gs.lenE hx (by omega) ?_
  refine Gs.lenE hy (by omega) ?_
  (repeat (refine G.step ?_))
  refine G.ifd ?_ ?_ <;> intro hne
  · exact Gs.ret (by rw [decide_eq_false (fun e => hne (by rw [e]))])
  · have hlm : l.length = m.length := by omega
    refine Gs.lp (β := Nat) (fun i => I i) (fun _ => h) (fun _ => []) (fun i => i ≤ l.length ∧ ∀ j (h1 : j < l.length) (h2 : j < m.length), j < i → l[j] = m[j]) (fun i => l.length - i) 0 rfl ⟨Nat.zero_le _, fun j _ _ h => by omega⟩ (fun _ h => h) ?_
    rintro i ⟨hi, hR⟩ cont hc
    (repeat (refine G.jk ?_; intro _))
    refine Gs.lenE hx (by omega) ?_
    (repeat (refine G.step ?_))
    refine G.ifd ?_ ?_ <;> intro hlt
    · have h1 : i < l.length := by omega
      have h2 : i < m.length := by omega
      (repeat (refine Gs.dr ?_))
      refine Gs.qindexE hx h1 ?_
      intro b o hp
      refine Gs.qloadE hp ?_
      refine Gs.qindexE hy h2 ?_
      intro b' o' hp'
      refine Gs.qloadE hp' ?_
      (repeat (refine G.qkp ?_))
      refine G.ifd ?_ ?_ <;> intro hq
      · refine Gs.ret ?_
        rw [decide_eq_false]
        intro e
        subst e
        exact hq rfl
      · (repeat (refine G.add (by omega) ?_))
        refine Gs.go (hc (i + 1) ⟨by omega, fun j h3 h4 h5 => ?_⟩ (by omega)) rfl
        rcases Nat.lt_or_ge j i with h6 | h6
        · exact hR j h3 h4 h6
        · have : j = i := by omega
          subst this
          omega
    · refine Gs.ret ?_
      rw [decide_eq_true]
      exact List.ext_getElem hlm fun j h3 h4 => hR j h3 h4 (by omega)
theorem equalW_ok (x y : PosH) (p q : Pt) (h : Hp) (hx : posW h x p) (hy : posW h y q) : Ct Tryz.prog 18 [vPos x, vPos y] h (fun _ v => v = .bool (decide (p = q))) := by
  refine ct18 ?_
  intro w0
  unfold s18
  have he : ∀ b, b = decide (p.c = q.c ∧ p.a = q.a ∧ p.b = q.b ∧ p.r = q.r ∧ p.s = q.s) → Value.bool b = .bool (decide (p = q)) := by
    intro b hb
    rw [hb]
    congr 1
    rw [decide_eq_decide]
    cases p; cases q; simp
  (repeat (first | refine G.step ?_ | (refine Gs.box ?_; intro _)))
  refine Gs.callv0 (intsW_ok p.c q.c _ _ h hx.c hy.c hx.lc hy.lc) ?_
  refine G.gddt ?_ ?_ <;> intro e1
  · (repeat (refine G.step ?_))
    refine Gs.callv0 (intsW_ok p.a q.a _ _ h hx.a hy.a hx.la hy.la) ?_
    refine G.gddt ?_ ?_ <;> intro e2
    · (repeat (refine G.step ?_))
      refine Gs.callv0 (intsW_ok p.b q.b _ _ h hx.b hy.b hx.lb hy.lb) ?_
      refine G.gddt ?_ ?_ <;> intro e3
      · (repeat (refine G.step ?_))
        rw [hx.r, hy.r]
        refine G.gddt ?_ ?_ <;> intro e4
        · (repeat (refine G.step ?_))
          rw [hx.s, hy.s]
          exact Gs.ret (he _ (by simp [e1, e2, e3, e4]))
        · exact Gs.ret (he _ (by simp [e4]))
      · exact Gs.ret (he _ (by simp [e3]))
    · exact Gs.ret (he _ (by simp [e2]))
  · exact Gs.ret (he _ (by simp [e1]))
theorem posW.mono {h h' : Hp} {x : PosH} {p : Pt} (hle : Hle h h') (hp : posW h x p) : posW h' x p := ⟨hp.c.mono hle, hp.a.mono hle, hp.b.mono hle, hp.r, hp.s, hp.lc, hp.la, hp.lb⟩
theorem orders_ok (x y z : PosH) (p q r : Pt) (h : Hp) (hE : Env h) (hx : posW h x p) (hy : posW h y q) (hz : posW h z r) : Ct Tryz.prog 6 [vPos x, vPos y, vPos z] h (fun _ v => v = .bool true) := by
  refine ct6 ?_
  intro w0
  unfold s6
  have L1 := lin_cmpP.rng p q
  have L2 := lin_cmpP.rng q r
  have L3 := lin_cmpP.rng p r
  have L4 := lin_cmpP.neg p q
  have L5 := lin_cmpP.eq p q
  have L6 := lin_cmpP.eq q r
  have L7 := lin_cmpP.tr p q r
  have L10 : cmpP p q = 1 → cmpP q r = 1 → cmpP p r = 1 := fun e e' => by
    have m1 := lin_cmpP.neg p q
    have m2 := lin_cmpP.neg q r
    have m3 := lin_cmpP.neg p r
    have := lin_cmpP.tr r q p (by omega) (by omega)
    omega
  have L8 : cmpP p q = 0 → cmpP p r = cmpP q r := fun e => by rw [L5.1 e]
  have L9 : cmpP q r = 0 → cmpP p r = cmpP p q := fun e => by rw [← L6.1 e]
  have e1 := cmpPW_ok x y p q h hx hy
  have e2 := cmpPW_ok y z q r h hy hz
  have e3 := cmpPW_ok x z p r h hx hz
  have e4 := cmpPW_ok y x q p h hy hx
  have e5 := cmpPW_ok x x p p h hx hx
  have e6 := equalW_ok x y p q h hx hy
  rw [lin_cmpP.refl] at e5
  rw [L4] at e4
  have e7 : decide (p = q) = decide (cmpP p q = 0) := by rw [decide_eq_decide]; exact L5.symm
  rw [e7] at e6
  clear e7
  generalize cmpP p q = a at *
  generalize cmpP q r = b at *
  generalize cmpP p r = c at *
  (repeat (refine Gs.box ?_; intro _))
  refine Gs.callv0 (sanity_ok h hE) ?_
  (repeat (refine G.step ?_))
  refine Gs.callv0 e1 ?_
  (repeat (refine G.step ?_))
  refine Gs.callv0 e2 ?_
  (repeat (refine G.step ?_))
  refine Gs.callv0 e3 ?_
  refine G.jnP (fun j => j = .bool false) ?_ ?_
  · rintro j rfl
    refine G.jk ?_; intro _
    (repeat (refine G.iff ?_))
    refine G.jnP (fun j => j = .bool false) ?_ ?_
    · rintro j rfl
      refine G.jk ?_; intro _
      (repeat (first | refine G.step ?_ | refine G.iff ?_ | refine G.gdtt ?_))
      refine G.gddf ?_ ?_ <;> intro h1
      · exact Gs.ret rfl
      · (repeat (refine G.step ?_))
        refine G.gddf ?_ ?_ <;> intro h2
        · exact Gs.ret rfl
        · (repeat (refine G.step ?_))
          refine G.gddt ?_ ?_ <;> intro h3
          · (repeat (refine G.step ?_))
            refine G.gddf ?_ ?_ <;> intro h4
            · exact Gs.ret rfl
            · (repeat (refine G.step ?_))
              refine G.gddt ?_ ?_ <;> intro h5
              · (repeat (refine G.step ?_))
                have hb : b = 0 := by have := L8 h5; omega
                exact Gs.ret (by rw [decide_eq_true hb])
              · exfalso
                have ha : a = 1 := by omega
                rcases L2 with l | l | l
                · omega
                · have := L9 l; omega
                · have := L10 ha l; omega
          · exfalso; omega
    · intro K hK
      (repeat (refine G.step ?_))
      refine G.gddt ?_ ?_ <;> intro h1
      · (repeat (refine G.step ?_))
        refine G.gddt ?_ ?_ <;> intro h2
        · (repeat (refine G.step ?_))
          refine G.gddf ?_ ?_ <;> intro h3
          · exfalso; omega
          · (repeat (refine G.step ?_))
            refine G.gddt ?_ ?_ <;> intro h4
            · (repeat (refine G.step ?_))
              refine G.gddf ?_ ?_ <;> intro h5
              · exfalso; omega
              · (repeat (refine G.step ?_))
                exact hK _ (by rw [decide_eq_false (by omega)])
            · exact hK _ rfl
        · exact hK _ rfl
      · exact hK _ rfl
  · intro K hK
    (repeat (refine G.step ?_))
    refine G.gddf ?_ ?_ <;> intro h1
    · exfalso; omega
    · (repeat (refine G.step ?_))
      refine G.gddf ?_ ?_ <;> intro h2
      · exfalso; omega
      · (repeat (refine G.step ?_))
        refine Gs.callv0 e4 ?_
        (repeat (first | refine G.neg (by omega) ?_ | refine G.step ?_))
        refine G.gdyf (by simp) ?_
        (repeat (refine G.step ?_))
        refine Gs.callv0 e5 ?_
        (repeat (first | refine G.step ?_ | refine G.gdff ?_))
        refine Gs.callv0 e6 ?_
        (repeat (refine G.step ?_))
        exact hK _ (by simp)
end Go.Proofs.YtcmokdokcghooaaGreatDoor
end

section
set_option linter.unusedVariables false
set_option maxRecDepth 100000
namespace Go.Proofs.YtcmokdokcghooaaGreatDoor
open Go Go.Sk Go.Pr Go.Ps Go.RowKit Go.WideShapes Go.ChangeShapes Go.ChangeAt
section
variable {H : Type} {enc : TypeId × Value → H} {W : World} {base : Nat} {v : Value} {d : DataW H} {p : List MemPlace}
theorem intl_at {n : Nat} {x : DataW H × List MemPlace} (h : DataW.trod enc Tryz.prog W 0 (fun _ => true) true n 33 [v] = some x) : ∃ l : List Int, RdE (World.hp W) v eInt 1 l ∧ l.length ≤ 9223372036854775807 := by
  obtain ⟨l, h1, _, h3⟩ := op_slice (enc := eInt) (sz := 1) (Q := fun _ => True) Tryz.underlying33 (by kernel_rfl) (by decide) (fun n cs x h => by
    obtain ⟨b, h1, _⟩ := op_int Tryz.underlying3 h
    exact ⟨b, h1, trivial⟩) h
  exact ⟨l, h1, h3⟩
theorem pos_at {n : Nat} {cs : List Value} {x : DataW H × List MemPlace} (h : DataW.trod enc Tryz.prog W 0 (fun _ => true) true n 44 cs = some x) : ∃ (y : PosH) (q : Pt), cs = ePos y ∧ posW (World.hp W) y q := by
  obtain ⟨y0, y1, y2, y3, m, _, hl, h0, h1, h2, h3⟩ := Joins.trod_struct4 Tryz.underlying44 h
  rw [show Tryz.prog.cellsOf 44 = 5 by kernel_rfl] at hl
  have h0 : DataW.trod enc Tryz.prog W 0 (fun _ => true) true m 33 ((cs.drop 0).take (Tryz.prog.cellsOf 33)) = some y0 := h0
  have h1 : DataW.trod enc Tryz.prog W 0 (fun _ => true) true m 42 ((cs.drop 1).take (Tryz.prog.cellsOf 42)) = some y1 := h1
  have h2 : DataW.trod enc Tryz.prog W 0 (fun _ => true) true m 3 ((cs.drop 3).take (Tryz.prog.cellsOf 3)) = some y2 := h2
  have h3 : DataW.trod enc Tryz.prog W 0 (fun _ => true) true m 3 ((cs.drop 4).take (Tryz.prog.cellsOf 3)) = some y3 := h3
  rw [show Tryz.prog.cellsOf 33 = 1 by kernel_rfl] at h0
  rw [show Tryz.prog.cellsOf 42 = 2 by kernel_rfl] at h1
  rw [show Tryz.prog.cellsOf 3 = 1 by kernel_rfl] at h2 h3
  match cs, hl with
  | [c0, c1, c2, c3, c4], _ =>
  obtain ⟨lc, rc, nc⟩ := intl_at (show DataW.trod enc Tryz.prog W 0 (fun _ => true) true m 33 [c0] = some y0 from h0)
  obtain ⟨zs, m', q1, q2, q3, q4, q5⟩ := DataW.trod_array Tryz.underlying42 (show DataW.trod enc Tryz.prog W 0 (fun _ => true) true m 42 [c1, c2] = some y1 from h1)
  have hc : Tryz.prog.cellsOf 33 = 1 := by kernel_rfl
  match zs, q4 with
  | [z0, z1], _ =>
  have i0 := q5 0 (by decide)
  have i1 := q5 1 (by decide)
  rw [hc] at i0 i1
  obtain ⟨la, ra, na⟩ := intl_at (show DataW.trod enc Tryz.prog W 0 (fun _ => true) true m' 33 [c1] = some z0 from i0)
  obtain ⟨lb, rb, nb⟩ := intl_at (show DataW.trod enc Tryz.prog W 0 (fun _ => true) true m' 33 [c2] = some z1 from i1)
  obtain ⟨r, er, _⟩ := op_int Tryz.underlying3 h2
  obtain ⟨s, es, _⟩ := op_int Tryz.underlying3 h3
  have gr : [c3] = [I r] := er
  have gs : [c4] = [I s] := es
  simp only [List.cons.injEq, and_true] at gr gs
  subst gr gs
  obtain ⟨k0, rfl⟩ := rc.hdr
  obtain ⟨k1, rfl⟩ := ra.hdr
  obtain ⟨k2, rfl⟩ := rb.hdr
  exact ⟨(k0, k1, k2, r, s), ⟨lc, la, lb, r, s⟩, rfl, ⟨rc, ra, rb, rfl, rfl, nc, na, nb⟩⟩
theorem pos_open (hval : Value.okWide Tryz.prog W .any base 44 v) (h : DataW.Trod enc Tryz.prog W 0 (fun _ => true) true 44 v d p) : ∃ y q, v = vPos y ∧ posW (World.hp W) y q := by
  obtain ⟨cs, rfl, hsz⟩ := okWide_struct Tryz.underlying44 hval
  obtain ⟨fuel, hf⟩ := h
  obtain ⟨y, q, e, hq⟩ := pos_at hf
  obtain ⟨l⟩ := cs
  have : l = ePos y := e
  subst this
  exact ⟨y, q, rfl, hq⟩
end
end Go.Proofs.YtcmokdokcghooaaGreatDoor
end

