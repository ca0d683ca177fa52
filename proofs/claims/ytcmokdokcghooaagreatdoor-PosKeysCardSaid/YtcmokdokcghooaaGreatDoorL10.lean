/-
  Lemmas for the proof of the statement of this claim: a part of the road, no statement of its own. Conditions: those that each lemma names.
-/
import Derived.Test.YtcmokdokcghooaaGreatDoorKi
set_option linter.unusedVariables false
set_option maxHeartbeats 4000000
namespace Go.Proofs.YtcmokdokcghooaaGreatDoor
open Go Go.Sk Go.Pr Go.Ps Go.RowKit
theorem byt_nat {n : Int} (h : 0 ≤ n ∧ n ≤ 255) : ((byt n).toNat : Int) = n := by rw [← wrap_byt, wrap8 h]
theorem byt_lt {a b : Int} (ha : 0 ≤ a ∧ a ≤ 255) (hb : 0 ≤ b ∧ b ≤ 255) : byt a < byt b ↔ a < b := by
  have h1 := byt_nat ha
  have h2 := byt_nat hb
  rw [UInt8.lt_iff_toNat_lt]
  omega
theorem byt_eq {a b : Int} (ha : 0 ≤ a ∧ a ≤ 255) (hb : 0 ≤ b ∧ b ≤ 255) : byt a = byt b ↔ a = b := by
  constructor
  · intro h
    have h1 := byt_nat ha
    have h2 := byt_nat hb
    rw [h] at h1
    omega
  · intro h; rw [h]
theorem less_iff : ∀ (l m : List Int), (∀ n ∈ l, 0 ≤ n ∧ n ≤ 255) → (∀ n ∈ m, 0 ≤ n ∧ n ≤ 255) → (Op.bytesLess (l.map byt) (m.map byt) = true ↔ cmpL l m = -1)
  | [], [], _, _ => by simp [Op.bytesLess, cmpL]
  | [], b :: m, _, _ => by simp [Op.bytesLess, cmpL]
  | a :: l, [], _, _ => by simp [Op.bytesLess, cmpL]
  | a :: l, b :: m, h1, h2 => by
    have ha := h1 a (by simp)
    have hb := h2 b (by simp)
    have ih := less_iff l m (fun n hn => h1 n (by simp [hn])) (fun n hn => h2 n (by simp [hn]))
    simp only [List.map_cons, Op.bytesLess, Bool.or_eq_true, Bool.and_eq_true, beq_iff_eq, decide_eq_true_eq, ih, byt_lt ha hb, byt_eq ha hb]
    show _ ↔ (if cmpI a b ≠ 0 then cmpI a b else cmpL l m) = -1
    rcases Int.lt_trichotomy a b with h | h | h
    · have hc : cmpI a b = -1 := by unfold cmpI; rw [if_pos h]
      rw [hc]
      simp [h]
    · subst h
      have hc : cmpI a a = 0 := by unfold cmpI; simp
      rw [hc]
      simp
    · have hc : cmpI a b = 1 := by unfold cmpI; rw [if_neg (by omega), if_pos h]
      rw [hc]
      simp
      omega
theorem less_cmpL (l m : List Int) (h1 : ∀ n ∈ l, 0 ≤ n ∧ n ≤ 255) (h2 : ∀ n ∈ m, 0 ≤ n ∧ n ≤ 255) : Op.bytesLess (l.map byt) (m.map byt) = decide (cmpL l m = -1) := by
  rw [Bool.eq_iff_iff, less_iff l m h1 h2, decide_eq_true_eq]
theorem cmpL_append : ∀ (l m l' m' : List Int), l.length = m.length → cmpL (l ++ l') (m ++ m') = if cmpL l m ≠ 0 then cmpL l m else cmpL l' m'
  | [], [], l', m', _ => by simp [cmpL]
  | [], _ :: _, _, _, h => by simp at h
  | _ :: _, [], _, _, h => by simp at h
  | a :: l, b :: m, l', m', h => by
    simp only [List.cons_append, cmpL]
    rw [cmpL_append l m l' m' (by simpa using h)]
    by_cases hc : cmpI a b = 0
    · simp [hc]
    · simp [hc]
theorem cmpP_nums {p q : Pt} (hc : p.c.length = q.c.length) (ha : p.a.length = q.a.length) (hb : p.b.length = q.b.length) : cmpL (numsP p) (numsP q) = cmpP p q := by
  unfold numsP cmpP
  rw [cmpL_append _ _ _ _ (by simp [hc, ha, hb]), cmpL_append _ _ _ _ (by simp [hc, ha]), cmpL_append _ _ _ _ hc]
  simp only [orL, cmpL]
  by_cases h1 : cmpL p.c q.c = 0
  · by_cases h2 : cmpL p.a q.a = 0
    · by_cases h3 : cmpL p.b q.b = 0
      · by_cases h4 : cmpI p.r q.r = 0
        · by_cases h5 : cmpI p.s q.s = 0 <;> simp [h1, h2, h3, h4, h5]
        · simp [h1, h2, h3, h4]
      · simp [h1, h2, h3]
    · simp [h1, h2]
  · simp [h1]
theorem nums_bd {g : Gm} {p : Pt} (hv : ValidS g p) (hk : g.kinds.length ≤ 2) (hr : g.rights ≤ 2) : ∀ n ∈ numsP p, 0 ≤ n ∧ n ≤ 255 := by
  have ho := hv.ok hk hr
  intro n hn
  unfold numsP at hn
  simp only [List.mem_append, List.mem_cons, List.not_mem_nil, or_false] at hn
  have h1 := ho.c n
  have h2 := ho.a n
  have h3 := ho.b n
  have h4 := ho.r
  have h5 := ho.s
  rcases hn with ((hn | hn) | hn) | rfl | rfl
  · have := h1 hn; omega
  · have := h2 hn; omega
  · have := h3 hn; omega
  · omega
  · omega
theorem map_byt_inj : ∀ (l m : List Int), (∀ n ∈ l, 0 ≤ n ∧ n ≤ 255) → (∀ n ∈ m, 0 ≤ n ∧ n ≤ 255) → (l.map byt = m.map byt ↔ l = m)
  | [], [], _, _ => by simp
  | [], b :: m, _, _ => by simp
  | a :: l, [], _, _ => by simp
  | a :: l, b :: m, h1, h2 => by
    have ih := map_byt_inj l m (fun n hn => h1 n (by simp [hn])) (fun n hn => h2 n (by simp [hn]))
    simp only [List.map_cons, List.cons.injEq, ih, byt_eq (h1 a (by simp)) (h2 b (by simp))]
theorem Yd.sgtrX {S : WP} {t : TypeId} {a b : List UInt8} : Yd Tryz.prog S (V (binOp .gtr t (Str a) (Str b))) (.bool (!(Op.bytesLess a b || (a == b)))) := Yd.of fun w => by
  rw [run_strOp (.inr (.inr (.inl rfl)))]
  simp [Op.stringOp, pure, Sem.run]
theorem keys_ok (x : RwG) (b0 b1 : List UInt8) (C : List (UInt8 × UInt8 × UInt8)) (ra rb : Nat → UInt8) (h : Hp) (hE : Env h) (hx : RgR h x b0 b1 C) : Ct Tryz.prog 10 [vRg x, vRw ra, vRw rb] h (fun _ y => y = .bool true) := by
  refine ct10 ?_
  intro w0
  unfold s10
  (repeat (refine Gs.box ?_; intro _))
  rename_i xb yb zb
  refine Gs.callv0 (sanity_ok h hE) ?_
  (repeat (refine G.step ?_))
  refine Gs.call0 (made3_ok x b0 b1 C h hx) ?_
  rintro _ h1 le1 ⟨xg, g, rfl, hg, hG⟩
  have hk2 := hG.k.l2
  have hr2 := hG.r
  have hc9 := hG.b.c9
  (repeat (first | refine G.step ?_ | (refine Gs.alloc ?_; intro _) | refine Gs.store ?_))
  rename_i gb
  refine Gs.call0 (made4_ok g xg ra h1 hg hG) ?_
  rintro _ h2 le2 ⟨y, p, rfl, hp, hpv⟩
  have hg2 := hg.mono le2
  (repeat (first | refine G.step ?_ | (refine Gs.alloc ?_; intro _) | refine Gs.store ?_))
  rename_i pb
  refine Gs.call0 (made4_ok g xg rb h2 hg2 hG) ?_
  rintro _ h3 le3 ⟨y2, p2, rfl, hp2, hpv2⟩
  have hg3 := hg2.mono le3
  have hp3 := hp.mono le3
  obtain ⟨z1, z2, z3⟩ := hpv.lens
  obtain ⟨y1', y2', y3'⟩ := hpv2.lens
  have n1 := nums_bd hpv hk2 hr2
  have n2 := nums_bd hpv2 hk2 hr2
  have eL := less_cmpL (numsP p) (numsP p2) n1 n2
  have eG := less_cmpL (numsP p2) (numsP p) n2 n1
  have eC := cmpP_nums (p := p) (q := p2) (by omega) (by omega) (by omega)
  have eC' := cmpP_nums (p := p2) (q := p) (by omega) (by omega) (by omega)
  have hng := lin_cmpP.neg p p2
  have hrg := lin_cmpP.rng p p2
  have heq := lin_cmpP.eq p p2
  have hinj := map_byt_inj (numsP p) (numsP p2) n1 n2
  have hkl : (keyP p).length = g.cells + 2 * g.kinds.length + 2 := by unfold keyP numsP; simp; omega
  have hkeq : keyP p = keyP p2 ↔ p = p2 := by
    unfold keyP
    rw [hinj]
    constructor
    · intro e
      refine heq.1 ?_
      rw [← eC, e]
      exact (lin_cmpL.eq _ _).2 rfl
    · intro e; rw [e]
  have eL' : Op.bytesLess (keyP p) (keyP p2) = decide (cmpP p p2 = -1) := by rw [← eC]; exact eL
  have eG' : (!(Op.bytesLess (keyP p) (keyP p2) || (keyP p == keyP p2))) = decide (cmpP p p2 = 1) := by
    rw [eL', Bool.eq_iff_iff]
    simp only [Bool.not_eq_true', Bool.or_eq_false_iff, decide_eq_false_iff_not, beq_eq_false_iff_ne, decide_eq_true_eq, ne_eq, hkeq, ← heq]
    omega
  (repeat (first | refine G.step ?_ | (refine Gs.alloc ?_; intro _) | refine Gs.store ?_))
  rename_i qb
  refine Gs.callv0 (key_ok y p h3 hp3 ⟨by omega, by omega, by omega⟩) ?_
  (repeat (refine G.step ?_))
  refine Gs.callv0 (key_ok y2 p2 h3 hp2 ⟨by omega, by omega, by omega⟩) ?_
  refine G.jnP (fun j => j = I (if cmpP p p2 = -1 then -1 else 0)) ?_ ?_
  · rintro j rfl
    refine G.jk ?_; intro _
    refine G.jnP (fun j => j = I (cmpP p p2)) ?_ ?_
    · rintro j rfl
      refine G.jk ?_; intro _
      (repeat (first | refine G.step ?_ | refine G.gdtt ?_))
      refine Gs.lenF hg3.k (by omega) ?_
      (repeat (first | refine G.add (by omega) ?_ | refine G.mul (by omega) ?_ | refine G.step ?_))
      refine G.gdy (by rw [hkl]; omega) ?_
      (repeat (refine G.step ?_))
      refine Gs.callv0 (equal_ok y y2 p p2 h3 hp3 hp2) ?_
      (repeat (refine G.step ?_))
      refine G.gdy (by rw [decide_eq_decide]; exact hkeq) ?_
      (repeat (refine G.step ?_))
      refine Gs.callv0 (cmpP_ok y y2 p p2 h3 hp3 hp2) ?_
      (repeat (refine G.step ?_))
      exact Gs.ret (by simp)
    · intro K hK
      haveI := @Yd.sgtrX
      (repeat (refine G.step ?_))
      rw [eG']
      refine G.ifd ?_ ?_ <;> intro hc
      · exact hK _ (by rw [hc])
      · refine hK _ ?_
        congr 1
        split <;> omega
  · intro K hK
    (repeat (refine G.step ?_))
    rw [eL']
    refine G.ifd ?_ ?_ <;> intro hc
    · exact hK _ (by rw [if_pos hc])
    · exact hK _ (by rw [if_neg hc])
end Go.Proofs.YtcmokdokcghooaaGreatDoor
