/-
  Lemmas for the proof of the statement of this claim: a part of the road, no statement of its own. Conditions: those that each lemma names.
-/
import Derived.Test.YtnepdmnkhjpnhaaKd
import Derived.Test.YtnepdmnkhjpnhaaKg
section
set_option linter.unusedVariables false
set_option linter.unusedSimpArgs false
set_option linter.unusedSectionVars false
set_option maxHeartbeats 8000000
namespace Go.Proofs.Ytnepdmnkhjpnhaa
open Go Go.Sk Go.Lp Go.RowKit
variable {M : Go.Sk.Mode}
/-! ### The reference: all spots by their numbers, until nothing grows -/
def fo (n : Nat) (out : List Int) (m : Sp) : Int := (out[spn n m]?).getD 0
def bestV (f : Sp → Int) (ms : List Sp) : Int := if ms.any (fun m => decide (f m = 3)) = true then 1 else if ms.all (fun m => decide (f m = 1)) = true then 3 else 0
theorem bestV_one {f : Sp → Int} {ms : List Sp} : (∃ m ∈ ms, f m = 3) → bestV f ms = 1 := by
  rintro ⟨m, hm, h⟩
  unfold bestV
  rw [if_pos (List.any_eq_true.2 ⟨m, hm, by simpa using h⟩)]
theorem bestV_three {f : Sp → Int} {ms : List Sp} (h : ∀ m ∈ ms, f m = 1) : bestV f ms = 3 := by
  unfold bestV
  rw [if_neg, if_pos (List.all_eq_true.2 fun m hm => by simpa using h m hm)]
  rw [List.any_eq_true]
  rintro ⟨m, hm, h3⟩
  have := h m hm
  simp at h3
  omega
theorem bestV_sound {g : Gr} {f : Sp → Int} {s : Sp} (hf : ∀ m ∈ mv g s, f m ≠ 0 → Out g (f m) m) (hr : bestV f (mv g s) ≠ 0) : Out g (bestV f (mv g s)) s := by
  unfold bestV at hr ⊢
  split
  · rename_i h
    obtain ⟨m, hm, h3⟩ := List.any_eq_true.1 h
    have h3 : f m = 3 := by simpa using h3
    have := hf m hm (by omega)
    rw [h3] at this
    exact .win hm this
  · rename_i h
    rw [if_neg h] at hr
    split
    · rename_i h2
      refine .loss fun m hm => ?_
      have h1 : f m = 1 := by simpa using List.all_eq_true.1 h2 m hm
      have := hf m hm (by omega)
      rw [h1] at this
      exact this
    · rename_i h2
      rw [if_neg h2] at hr
      exact absurd rfl hr
def spotOf (n i : Nat) : Sp := (((i / 2 / (2 * n + 1) : Nat) : Int), ((i / 2 % (2 * n + 1) : Nat) : Int) - n, ((i % 2 : Nat) : Int))
theorem spn_spotOf (n i : Nat) : spn n (spotOf n i) = i := by
  unfold spn spotOf
  dsimp only
  have h1 := Nat.div_add_mod (i / 2) (2 * n + 1)
  have h2 : ((i / 2 / (2 * n + 1) : Nat) : Int) * (2 * n + 1) = (((2 * n + 1) * (i / 2 / (2 * n + 1)) : Nat) : Int) := by push_cast; rw [Int.mul_comm]
  rw [h2]
  generalize (2 * n + 1) * (i / 2 / (2 * n + 1)) = A at *
  generalize i / 2 % (2 * n + 1) = B at *
  omega
theorem spotOf_SN {g : Gr} {n i : Nat} (hi : i < g.L.length * (2 * n + 1) * 2) : SN g n (spotOf n i) := by
  unfold SN spotOf
  dsimp only
  have h1 : i / 2 / (2 * n + 1) < g.L.length := by
    rw [Nat.div_lt_iff_lt_mul (by omega)]
    omega
  have h2 := Nat.mod_lt (i / 2) (show 0 < 2 * n + 1 by omega)
  generalize i / 2 / (2 * n + 1) = A at *
  generalize i / 2 % (2 * n + 1) = B at *
  omega
theorem spotOf_spn {g : Gr} {n : Nat} {s : Sp} (hs : SN g n s) : spotOf n (spn n s) = s := spn_inj (spotOf_SN (spn_lt hs)) hs (spn_spotOf n _)
structure RI (g : Gr) (n : Nat) (out : List Int) : Prop where
  len : out.length = g.L.length * (2 * n + 1) * 2
  sound : ∀ s, SN g n s → fo n out s ≠ 0 → Out g (fo n out s) s
def Clo (g : Gr) (n : Nat) (out : List Int) (k : Nat) : Prop := ∀ j, j < k → fo n out (spotOf n j) = 0 → bestV (fo n out) (mv g (spotOf n j)) = 0
theorem fo_get {n : Nat} {out : List Int} {i : Nat} (hi : i < out.length) : fo n out (spotOf n i) = out[i] := by
  unfold fo
  rw [spn_spotOf, List.getElem?_eq_getElem hi]; rfl
theorem RI.done {g : Gr} {n : Nat} (hg : GV g) {out : List Int} (h : RI g n out) (hc : Clo g n out out.length) {s : Sp} (hs : SN g n s) : fo n out s = res g s := by
  have key : ∀ r s, Out g r s → SN g n s → fo n out s = r := by
    intro r s ho
    induction ho with
    | win hm ho ih =>
      intro hs
      have h3 := ih (mv_SN hg hs hm)
      have hne : fo n out _ ≠ 0 := fun h0 => by
        have := hc (spn n _) (by rw [h.len]; exact spn_lt hs) (by rw [spotOf_spn hs]; exact h0)
        rw [spotOf_spn hs, bestV_one ⟨_, hm, h3⟩] at this
        cases this
      exact Out.uniq (.win hm ho) _ (h.sound _ hs hne)
    | loss hl ih =>
      intro hs
      have hne : fo n out _ ≠ 0 := fun h0 => by
        have := hc (spn n _) (by rw [h.len]; exact spn_lt hs) (by rw [spotOf_spn hs]; exact h0)
        rw [spotOf_spn hs, bestV_three fun m hm => ih m hm (mv_SN hg hs hm)] at this
        cases this
      exact Out.uniq (.loss hl) _ (h.sound _ hs hne)
  by_cases h0 : fo n out s = 0
  · rcases res_cases g s with ⟨h1, h2⟩ | ⟨h1, h2⟩ | ⟨h1, _⟩
    · have := key _ _ h2 hs; omega
    · have := key _ _ h2 hs; omega
    · rw [h0, h1]
  · exact (res_of (h.sound s hs h0)).symm
theorem fo_set {g : Gr} {n : Nat} {out : List Int} {i : Nat} (hi : i < out.length) (r : Int) (hl : out.length = g.L.length * (2 * n + 1) * 2) {s : Sp} (hs : SN g n s) : fo n (out.set i r) s = if s = spotOf n i then r else fo n out s := by
  unfold fo
  rw [List.getElem?_set]
  by_cases e : s = spotOf n i
  · subst e
    rw [spn_spotOf]
    simp [hi]
  · rw [if_neg e, if_neg]
    intro h
    exact e (by rw [h, spotOf_spn hs])
theorem RI.set {g : Gr} {n : Nat} {out : List Int} (hg : GV g) (h : RI g n out) {i : Nat} (hi : i < out.length) (hr : bestV (fo n out) (mv g (spotOf n i)) ≠ 0) : RI g n (out.set i (bestV (fo n out) (mv g (spotOf n i)))) := by
  have hsi : SN g n (spotOf n i) := spotOf_SN (by rw [← h.len]; exact hi)
  refine ⟨by rw [List.length_set]; exact h.len, fun s hs hne => ?_⟩
  rw [fo_set hi _ h.len hs] at hne ⊢
  split
  · rename_i e
    subst e
    exact bestV_sound (fun m hm hm0 => h.sound m (mv_SN hg hsi hm) hm0) hr
  · rename_i e
    rw [if_neg e] at hne
    exact h.sound s hs hne
theorem count_set {out : List Int} {i : Nat} (hi : i < out.length) {r : Int} (h0 : out[i] = 0) (hr : r ≠ 0) : (out.set i r).count 0 < out.count 0 := by
  rw [List.count_set hi]
  have : 0 < out.count 0 := List.count_pos_iff.2 (by rw [← h0]; exact List.getElem_mem hi)
  simp [h0, hr]
  omega
theorem index_ok (g : Gr) (n : Nat) (s : Sp) (h : Hp) (hn : n ≤ 16) (hg : GV g) (hs : SN g n s) : Ct Try.prog 61 [vSp s, I n] h (fun _ v => v = I (spn n s)) := by
  obtain ⟨a, k, w⟩ := s
  dsimp only [vSp]
  refine ct61 ?_
  intro w0
  unfold s61
  have h1 := hs
  unfold SN at h1
  dsimp only at h1
  have hl := hg.l1
  have hm0 : 0 ≤ a * (2 * (n : Int) + 1) := Int.mul_nonneg h1.1 (by omega)
  have hm1 : a * (2 * (n : Int) + 1) ≤ 32 * 33 := Int.mul_le_mul (by omega) (by omega) (by omega) (by omega)
  refine Gs.box ?_
  intro sb
  refine G.step ?_
  refine G.step ?_
  refine G.mul (by omega) ?_
  refine G.add (by omega) ?_
  refine G.mul ⟨by omega, by omega⟩ ?_
  have hsp : spn n (a, k, w) = ((a * (2 * (n : Int) + 1) + k + n) * 2 + w).toNat := rfl
  rw [hsp]
  clear hsp hs
  generalize a * (2 * (n : Int) + 1) = T at *
  (repeat (first | refine G.add (by omega) ?_ | refine G.mul (by omega) ?_ | refine G.step ?_))
  refine Gs.ret ?_
  congr 1
  omega
theorem left_res {g : Gr} {s : Sp} {h1 : ¬ res g s = 0} : left g s = if s.2.2 = 1 then 4 - res g s else res g s := by unfold left; rw [if_neg h1]
/-- What the reference knows of all spots with at most n free moves. -/
def KnR (h : Hp) (q : SlH) (g : Gr) (n : Nat) : Prop := ∃ out : List Int, RdE h (slv q) eInt 1 out ∧ out.length = g.L.length * (2 * n + 1) * 2 ∧ ∀ s, SN g n s → fo n out s = res g s
theorem leftR_ok (g : Gr) (n : Nat) (q : SlH) (s : Sp) (h : Hp) (hn : n ≤ 16) (hg : GV g) (hk : KnR h q g n) (hs : SN g n s) : Ct Try.prog 34 [vSp s, slv q, I n] h (fun _ v => v = I (left g s)) := by
  obtain ⟨out, hq, hlen, hout⟩ := hk
  refine ct34 ?_
  intro w0
  unfold s34
  have hlt : spn n s < out.length := by rw [hlen]; exact spn_lt hs
  have hv : out[spn n s] = res g s := by rw [← hout s hs]; unfold fo; rw [List.getElem?_eq_getElem hlt]; rfl
  have hc := res_cases g s
  (repeat (first | refine G.step ?_ | (refine Gs.box ?_; intro _)))
  refine Gs.callv0 (index_ok g n s h hn hg hs) ?_
  refine Gs.indexE hq hlt ?_
  intro b1 o1 hp1
  refine Gs.loadE hp1 ?_
  rw [hv]
  (repeat (refine G.step ?_))
  refine G.ifd ?_ ?_ <;> intro h1
  · exact Gs.ret (by unfold left; rw [if_pos h1])
  · (repeat (refine G.step ?_))
    refine G.ifd ?_ ?_ <;> intro h2
    · (repeat (refine G.sub (by omega) ?_))
      exact Gs.ret (by unfold left; rw [if_neg h1, if_pos h2])
    · exact Gs.ret (by unfold left; rw [if_neg h1, if_neg h2])
theorem best_in {w0 : World} {h0 h : Hp} {L : List Itm} {K : Value → WP} (g : Gr) (n : Nat) (q v : SlH) (ms : List Sp) (out : List Int) (hn : n ≤ 16) (hg : GV g) (hq : RdE h (slv q) eSp 3 ms) (hms : ∀ m ∈ ms, SN g n m) (hml : ms.length ≤ 33) (hlen : out.length = g.L.length * (2 * n + 1) * 2) [hs : Sl L (slv v) 3 1 (fl eInt out)]
    (hk : Gs w0 h0 h L (K (I (bestV (fo n out) ms)))) : Gs w0 h0 h L (Do Try.prog (vCall (.func (.func 62) #[] ⟨[]⟩) [slv q, slv v, I n]) K) := by
  refine in62 ?_
  unfold s62
  refine Gs.lp (β := Int × Nat) (fun u => (I u.1, I u.2)) (fun _ => h) (fun _ => L) (fun u => u.2 ≤ ms.length ∧ (ms.take u.2).any (fun m => decide (fo n out m = 3)) = false ∧ u.1 = if (ms.take u.2).all (fun m => decide (fo n out m = 1)) = true then 3 else 0) (fun u => ms.length - u.2) (3, 0) rfl ⟨Nat.zero_le _, by simp, by simp⟩ (fun _ s => s) ?_
  rintro ⟨r, i⟩ ⟨hi, hany, hr⟩ cont hc
  dsimp only at hi hany hr hc ⊢
  refine G.jk ?_; intro _
  refine Gs.lenE hq (by omega) ?_
  (repeat (refine G.step ?_))
  refine G.ifd ?_ ?_ <;> intro hlt
  · have hlt' : i < ms.length := by omega
    have htake := List.take_succ_eq_append_getElem hlt'
    have hmi := hms _ (List.getElem_mem hlt')
    refine G.jnP (fun j => ∃ r' : Int, j = I r' ∧ (ms.take (i + 1)).any (fun m => decide (fo n out m = 3)) = false ∧ r' = if (ms.take (i + 1)).all (fun m => decide (fo n out m = 1)) = true then 3 else 0) ?_ ?_
    · rintro _ ⟨r', rfl, h1, h2⟩
      refine G.jk ?_; intro _
      (repeat (refine G.add (by omega) ?_))
      exact Gs.go (t' := (I r', I ((i + 1 : Nat) : Int))) (hc (r', i + 1) ⟨by dsimp only; omega, h1, h2⟩ (by dsimp only; omega)) (by simp)
    · intro K2 hK2
      rw [htake, List.any_append, List.all_append, hany] at hK2
      refine Gs.indexE hq hlt' ?_
      intro b1 o1 hp1
      refine Gs.loadE hp1 ?_
      have hmm : ms[i] ∈ ms := List.getElem_mem hlt'
      generalize ms[i] = m at *
      refine Gs.callv0 (index_ok g n m h hn hg hmi) ?_
      have hlt2 : spn n m < out.length := by rw [hlen]; exact spn_lt hmi
      have hv : out[spn n m] = fo n out m := by unfold fo; rw [List.getElem?_eq_getElem hlt2]; rfl
      refine Gs.oindex (enc := eInt) hlt2 ?_
      intro b2 o2 hp2
      refine Gs.oloadE hp2 ?_
      rw [hv]
      (repeat (refine G.step ?_))
      refine G.ifd ?_ ?_ <;> intro h3
      · have : bestV (fo n out) ms = 1 := bestV_one ⟨m, hmm, h3⟩
        rw [this] at hk
        exact hk
      · (repeat (refine G.step ?_))
        refine G.ifd ?_ ?_ <;> intro h4
        · exact hK2 _ ⟨0, rfl, by simp [h3], by simp [h4]⟩
        · have h4 : fo n out m = 1 := by omega
          refine hK2 _ ⟨r, rfl, by simp [h3], ?_⟩
          simp only [List.all_cons, List.all_nil, h4, decide_true, Bool.and_true]
          exact hr
  · have hi' : i = ms.length := by omega
    subst hi'
    rw [List.take_length] at hany hr
    have : bestV (fo n out) ms = r := by
      unfold bestV
      rw [if_neg (by rw [hany]; simp), hr]
    rw [this] at hk
    exact hk
end Go.Proofs.Ytnepdmnkhjpnhaa
end

section
set_option linter.unusedVariables false
set_option linter.unusedSimpArgs false
set_option linter.unusedSectionVars false
set_option maxHeartbeats 8000000
namespace Go.Proofs.Ytnepdmnkhjpnhaa
open Go Go.Sk Go.Lp Go.RowKit
variable {M : Go.Sk.Mode}
/-- In a pass: nothing has grown yet, and all up to here is as it should be; or something has grown. -/
def Pass (g : Gr) (n : Nat) (out0 : List Int) (grown : Bool) (i : Nat) (out : List Int) : Prop := (grown = false → out = out0 ∧ Clo g n out0 i) ∧ (grown = true → out.count 0 < out0.count 0)
theorem spot_eq (n i : Nat) : (i : Int) / 2 / (2 * (n : Int) + 1) = (spotOf n i).1 ∧ (i : Int) / 2 % (2 * (n : Int) + 1) - n = (spotOf n i).2.1 ∧ (i : Int) % 2 = (spotOf n i).2.2 := by
  unfold spotOf
  dsimp only
  push_cast
  exact ⟨rfl, rfl, rfl⟩
theorem resultsR_ok (g : Gr) (x : GrH) (n : Nat) (h : Hp) (hn : n ≤ 16) (hx : GrR h x g) (hg : GV g) : Ct Try.prog 35 [vG x, I n] h (fun h' y => ∃ q : SlH, y = slv q ∧ KnR h' q g n) := by
  refine ct35 ?_
  intro w0
  unfold s35
  have hl1 := hg.l1
  obtain ⟨N, hNe⟩ : ∃ N : Nat, N = g.L.length * (2 * n + 1) * 2 := ⟨_, rfl⟩
  have hN : (2 * (g.L.length : Int)) * (2 * (n : Int) + 1) = (N : Int) := by
    rw [hNe]
    push_cast
    rw [Int.mul_assoc, Int.mul_comm 2]
  have hNb : N ≤ 2112 := by
    rw [hNe]
    have : g.L.length * (2 * n + 1) ≤ 32 * 33 := Nat.mul_le_mul hl1 (by omega)
    omega
  refine Gs.box ?_
  intro xb
  refine G.step ?_
  refine G.step ?_
  refine Gs.lenF hx.l (by omega) ?_
  refine G.mul (by omega) ?_
  refine G.mul (by omega) ?_
  refine G.add (by omega) ?_
  refine G.mul (by rw [hN]; omega) ?_
  rw [hN]
  refine Gs.make (enc := eInt) (a0 := 0) rfl (by omega) (by omega) (by omega) ?_
  intro v0
  refine Gs.slH (v := v0) ?_
  rintro q rfl
  rw [Int.toNat_natCast]
  have hRI0 : RI g n (List.replicate N 0) := ⟨by rw [List.length_replicate, hNe], fun s hs hne => by
    exfalso
    apply hne
    unfold fo
    rw [List.getElem?_replicate]
    split <;> rfl⟩
  refine Gs.lp (β := Hp × List Int × Bool) (fun u => .bool u.2.2) (fun u => u.1) (fun u => [.sl (slv q) 3 1 (fl eInt u.2.1), .blk xb [slv x.1, slv x.2] 27]) (fun u => Hle h u.1 ∧ RI g n u.2.1 ∧ (u.2.2 = false → Clo g n u.2.1 u.2.1.length)) (fun u => 2 * u.2.1.count 0 + (if u.2.2 = true then 1 else 0)) (h, List.replicate N 0, true) rfl ⟨Hle.refl h, hRI0, fun e => ((by cases e))⟩ (fun _ s => s) ?_
  rintro ⟨hh, out, grown⟩ ⟨hle, hRI, hcl⟩ cont hc
  dsimp only at hle hRI hcl hc ⊢
  refine G.jk ?_; intro _
  cases grown with
  | false =>
    (repeat (refine G.iff ?_))
    refine Gs.freezeE (enc := eInt) (v := slv q) (by decide) ?_
    intro h' hle' hr
    exact Gs.ret ⟨q, rfl, out, hr, hRI.len, fun s hs => hRI.done hg (hcl rfl) hs⟩
  | true =>
    (repeat (refine G.ift ?_))
    refine Gs.lp (β := Hp × Bool × Nat × List Int) (fun u => (.bool u.2.1, I u.2.2.1)) (fun u => u.1) (fun u => [.sl (slv q) 3 1 (fl eInt u.2.2.2), .blk xb [slv x.1, slv x.2] 27]) (fun u => Hle h u.1 ∧ u.2.2.1 ≤ N ∧ RI g n u.2.2.2 ∧ Pass g n out u.2.1 u.2.2.1 u.2.2.2) (fun u => N - u.2.2.1) (hh, false, 0, out) rfl ⟨hle, Nat.zero_le _, hRI, fun _ => ⟨rfl, fun j hj => absurd hj (Nat.not_lt_zero _)⟩, fun e => ((by cases e))⟩ (fun _ s => s) ?_
    clear hRI hle hcl
    rintro ⟨h1, gr, i, o⟩ ⟨hle, hi, hRI, hps⟩ cont2 hc2
    dsimp only at hle hi hRI hps hc2 ⊢
    have holen : o.length = N := by rw [hRI.len, hNe]
    refine G.jk ?_; intro _
    refine Gs.olen (enc := eInt) (by omega) ?_
    rw [holen]
    (repeat (refine G.step ?_))
    refine G.ifd ?_ ?_ <;> intro hlt
    · have hlt' : i < N := by omega
      refine G.jnk (fun a S' => ∃ (h2 : Hp) (gr' : Bool) (o' : List Int), a = .bool gr' ∧ Hle h h2 ∧ RI g n o' ∧ Pass g n out gr' (i + 1) o' ∧ S' = St w0 h h2 [.sl (slv q) 3 1 (fl eInt o'), .blk xb [slv x.1, slv x.2] 27]) ?_ ?_
      · rintro _ _ ⟨h2, gr', o', rfl, a1, a2, a3, rfl⟩
        refine G.jk ?_; intro _
        (repeat (refine G.add (by omega) ?_))
        exact Gs.go (t' := (.bool gr', I ((i + 1 : Nat) : Int))) (hc2 (h2, gr', i + 1, o') ⟨a1, by dsimp only; omega, a2, a3⟩ (by dsimp only; omega)) (by simp)
      · intro k14 hk14
        have hmod0 := Int.emod_nonneg ((i : Int) / 2) (show (2 * (n : Int) + 1) ≠ 0 by omega)
        have hmod1 := Int.emod_lt_of_pos ((i : Int) / 2) (show 0 < 2 * (n : Int) + 1 by omega)
        obtain ⟨e1, e2, e3⟩ := spot_eq n i
        refine Gs.dr ?_
        refine G.qquoN (by omega) (by omega) ?_
        refine G.qmul (by omega) ?_
        refine G.qadd (by omega) ?_
        refine G.qquoN (by omega) (by omega) ?_
        refine G.qquoN (by omega) (by omega) ?_
        refine G.qmul (by omega) ?_
        refine G.qadd (by omega) ?_
        refine G.qremN (by omega) (by omega) ?_
        refine G.qsub (by omega) ?_
        refine G.qremN (by omega) (by omega) ?_
        rw [e1, e2, e3]
        clear e1 e2 e3 hmod0 hmod1
        have hsn : SN g n (spotOf n i) := spotOf_SN (by rw [← hNe]; exact hlt')
        have hfo := fo_get (n := n) (out := o) (i := i) (by omega)
        generalize hsp : spotOf n i = s at *
        (repeat (first | refine G.step ?_ | (refine Gs.alloc ?_; intro _) | refine Gs.store ?_ | refine G.qkp ?_ | refine G.withT ?_))
        rename_i sb
        refine Gs.call0 (movesR_ok g x s h1 (hx.mono hle) hg (hsn.mono hn)) ?_
        rintro _ h2 le2 ⟨mq, rfl, hmq⟩
        refine best_in g n mq q (mv g s) o hn hg hmq (fun m hm => mv_SN hg hsn hm) (mv_len hg ⟨hsn.1, hsn.2.1⟩) hRI.len ?_
        have hset := hRI.set hg (i := i) (by omega)
        rw [hsp] at hset
        generalize hr : bestV (fo n o) (mv g s) = r at *
        refine G.jnP (fun j => j = .bool (decide (fo n o s = 0 ∧ r ≠ 0))) ?_ ?_
        · rintro _ rfl
          refine G.jk ?_; intro _
          refine G.ifd ?_ ?_ <;> intro hgo
          · skip
            refine Gs.setE (enc := eInt) (l := o) (a := r) (i := i) (by omega) ?_
            intro _
            refine Gs.sel (L' := [.sl (slv q) 3 1 (fl eInt (o.set i r)), .blk xb [slv x.1, slv x.2] 27]) ?_
            refine hk14 _ _ ⟨h2, true, o.set i r, rfl, hle.trans le2, hset hgo.2, ⟨fun e => ((by cases e)), fun _ => ?_⟩, rfl⟩
            have hlt := count_set (out := o) (i := i) (by omega) (r := r) (by rw [← hfo]; exact hgo.1) hgo.2
            cases gr with
            | false => rw [(hps.1 rfl).1] at hlt ⊢; exact hlt
            | true => have := hps.2 rfl; omega
          · refine Gs.sel (L' := [.sl (slv q) 3 1 (fl eInt o), .blk xb [slv x.1, slv x.2] 27]) ?_
            refine hk14 _ _ ⟨h2, gr, o, rfl, hle.trans le2, hRI, ⟨fun e => ?_, hps.2⟩, rfl⟩
            obtain ⟨e1, e2⟩ := hps.1 e
            refine ⟨e1, fun j hj h0 => ?_⟩
            by_cases ej : j = i
            · subst ej
              rw [hsp] at h0 ⊢
              rw [← e1] at h0 ⊢
              rw [hr]
              exact Decidable.byContradiction fun hne => hgo ⟨h0, hne⟩
            · exact e2 j (by omega) h0
        · intro K3 hK3
          refine Gs.oindex (enc := eInt) (l := o) (i := i) (by omega) ?_
          intro b1 o1 hp1
          refine Gs.oloadE hp1 ?_
          rw [← hfo]
          (repeat (refine G.step ?_))
          refine G.gddt ?_ ?_ <;> intro c1
          · (repeat (refine G.step ?_))
            refine hK3 _ ?_
            congr 1
            rw [decide_eq_decide]
            exact ⟨fun h => ⟨c1, h⟩, fun h => h.2⟩
          · exact hK3 _ (by rw [decide_eq_false]; exact fun h => c1 h.1)
    · have hi' : i = N := by omega
      subst hi'
      refine Gs.go (t' := .bool gr) (hc (h1, o, gr) ⟨hle, hRI, fun e => ?_⟩ ?_) rfl
      · dsimp only at e ⊢
        obtain ⟨e1, e2⟩ := hps.1 e
        rw [holen, e1]
        exact e2
      · dsimp only
        cases gr with
        | false => rw [(hps.1 rfl).1]; simp
        | true => have := hps.2 rfl; simp; omega
end Go.Proofs.Ytnepdmnkhjpnhaa
end

section
set_option linter.unusedVariables false
set_option linter.unusedSimpArgs false
set_option linter.unusedSectionVars false
set_option maxHeartbeats 8000000
namespace Go.Proofs.Ytnepdmnkhjpnhaa
open Go Go.Sk Go.Lp Go.RowKit
variable {M : Go.Sk.Mode}
theorem absR_ok (a : Int) (h : Hp) (ha : -1000 ≤ a ∧ a ≤ 1000) : Ct Try.prog 36 [I a] h (fun _ v => v = I (a.natAbs : Int)) := by
  refine ct36 ?_
  intro w0
  unfold s36
  (repeat (first | refine G.neg (by omega) ?_ | refine G.step ?_))
  exact Gs.ret (by rw [abs_max])
theorem holdsR_ok (g : Gr) (n : Nat) (q : SlH) (s : Sp) (side : Int) (h : Hp) (hn : n ≤ 16) (hg : GV g) (hk : KnR h q g n) (hs : SN g n s) (hside : side = 0 ∨ side = 1) : Ct Try.prog 39 [vSp s, I side, slv q, I n] h (fun _ v => v = .bool (decide (left g s ≠ lost side))) := by
  refine ct39 ?_
  intro w0
  unfold s39
  (repeat (first | refine G.step ?_ | (refine Gs.box ?_; intro _)))
  refine Gs.callv0 (leftR_ok g n q s h hn hg hk hs) ?_
  rcases hside with rfl | rfl
  · (repeat (first | refine G.step ?_ | refine G.gdtt ?_))
    refine G.gddf ?_ ?_ <;> intro c2
    · exact Gs.ret (by rw [decide_eq_true]; exact c2)
    · (repeat (first | refine G.step ?_ | refine G.gdft ?_))
      exact Gs.ret (by rw [decide_eq_false]; exact c2)
  · (repeat (first | refine G.step ?_ | refine G.gdtt ?_ | refine G.gdft ?_))
    exact Gs.ret rfl
theorem less_ok (a b : Sp) (h : Hp) : Ct Try.prog 26 [vSp a, vSp b] h (fun _ v => v = .bool (decide (lt a b))) := by
  refine ct26 ?_
  intro w0
  unfold s26
  (repeat (first | refine G.step ?_ | (refine Gs.box ?_; intro _)))
  refine G.ifd ?_ ?_ <;> intro c1
  · (repeat (refine G.step ?_))
    exact Gs.ret (by congr 1; rw [decide_eq_decide]; unfold lt; omega)
  · (repeat (refine G.step ?_))
    refine G.ifd ?_ ?_ <;> intro c2
    · (repeat (refine G.step ?_))
      exact Gs.ret (by congr 1; rw [decide_eq_decide]; unfold lt; omega)
    · (repeat (refine G.step ?_))
      exact Gs.ret (by congr 1; rw [decide_eq_decide]; unfold lt; omega)
theorem sp_eq (a b : Sp) : ([a.1, a.2.1, a.2.2] : List Int) = [b.1, b.2.1, b.2.2] ↔ a = b := by
  obtain ⟨a1, a2, a3⟩ := a
  obtain ⟨b1, b2, b3⟩ := b
  simp
theorem has_ok (l : List Sp) (q : SlH) (s : Sp) (h : Hp) (hq : RdE h (slv q) eSp 3 l) (hl : l.length ≤ 4611686018427387904) : Ct Try.prog 40 [slv q, vSp s] h (fun _ v => v = .bool (decide (s ∈ l))) := by
  refine ct40 ?_
  intro w0
  unfold s40
  (repeat (refine Gs.box ?_; intro _))
  rename_i sb
  refine Gs.lp (β := Nat) (fun u => I u) (fun _ => h) (fun _ => [.blk sb [I s.1, I s.2.1, I s.2.2] 30]) (fun u => u ≤ l.length ∧ s ∉ l.take u) (fun u => l.length - u) 0 rfl ⟨Nat.zero_le _, by simp⟩ (fun _ s => s) ?_
  rintro i ⟨hi, hno⟩ cont hc
  refine G.jk ?_; intro _
  refine Gs.lenE hq (by omega) ?_
  (repeat (refine G.step ?_))
  refine G.ifd ?_ ?_ <;> intro hlt
  · have hlt' : i < l.length := by omega
    have htake := List.take_succ_eq_append_getElem hlt'
    refine Gs.dr ?_
    refine Gs.qindexE hq hlt' ?_
    intro b1 o1 hp1
    refine Gs.qloadE hp1 ?_
    have hm : l[i] ∈ l := List.getElem_mem hlt'
    generalize l[i] = t at *
    (repeat (first | refine G.qkp ?_ | refine Gs.qkb ?_))
    refine G.ifd ?_ ?_ <;> intro he
    · rw [sp_eq] at he
      subst he
      exact Gs.ret (by rw [decide_eq_true hm])
    · rw [sp_eq] at he
      (repeat (refine G.add (by omega) ?_))
      refine Gs.go (t' := I ((i + 1 : Nat) : Int)) (hc (i + 1) ⟨by omega, ?_⟩ (by omega)) (by simp)
      rw [htake, List.mem_append, List.mem_singleton]
      exact fun h => h.elim hno fun e => he e.symm
  · have hi' : i = l.length := by omega
    rw [hi', List.take_length] at hno
    exact Gs.ret (by rw [decide_eq_false hno])
theorem has_in {w0 : World} {h0 h : Hp} {L : List Itm} {K : Value → WP} (l : List Sp) (q : SlH) (s : Sp) (hl : l.length ≤ 4611686018427387904) [hs : Sl L (slv q) 30 3 (fl eSp l)] (hk : Gs w0 h0 h L (K (.bool (decide (s ∈ l))))) : Gs w0 h0 h L (Do Try.prog (vCall (.func (.func 40) #[] ⟨[]⟩) [slv q, vSp s]) K) := by
  refine in40 ?_
  unfold s40
  (repeat (refine Gs.box ?_; intro _))
  rename_i sb
  refine Gs.lp (β := Nat) (fun u => I u) (fun _ => h) (fun _ => .blk sb [I s.1, I s.2.1, I s.2.2] 30 :: L) (fun u => u ≤ l.length ∧ s ∉ l.take u) (fun u => l.length - u) 0 rfl ⟨Nat.zero_le _, by simp⟩ (fun _ s => s) ?_
  rintro i ⟨hi, hno⟩ cont hc
  refine G.jk ?_; intro _
  refine Gs.olen (enc := eSp) (l := l) (by omega) ?_
  (repeat (refine G.step ?_))
  refine G.ifd ?_ ?_ <;> intro hlt
  · have hlt' : i < l.length := by omega
    have htake := List.take_succ_eq_append_getElem hlt'
    refine Gs.dr ?_
    refine Gs.qoindex (enc := eSp) (l := l) hlt' ?_
    intro b1 o1 hp1
    refine Gs.qoloadE hp1 ?_
    have hm : l[i] ∈ l := List.getElem_mem hlt'
    generalize l[i] = t at *
    (repeat (first | refine G.qkp ?_ | refine Gs.qkb ?_))
    refine G.ifd ?_ ?_ <;> intro he
    · rw [sp_eq] at he
      subst he
      rw [decide_eq_true hm] at hk
      exact Gs.sel hk
    · rw [sp_eq] at he
      (repeat (refine G.add (by omega) ?_))
      refine Gs.go (t' := I ((i + 1 : Nat) : Int)) (hc (i + 1) ⟨by omega, ?_⟩ (by omega)) (by simp)
      rw [htake, List.mem_append, List.mem_singleton]
      exact fun h => h.elim hno fun e => he e.symm
  · have hi' : i = l.length := by omega
    rw [hi', List.take_length] at hno
    rw [decide_eq_false hno] at hk
    exact Gs.sel hk
/-! ### Insertion -/
def ins (s : Sp) : List Sp → List Sp
  | [] => [s]
  | a :: r => if lt s a then s :: a :: r else a :: ins s r
theorem ins_mem (s : Sp) : ∀ (l : List Sp) (t : Sp), t ∈ ins s l ↔ t = s ∨ t ∈ l
  | [], t => by simp [ins]
  | a :: r, t => by
    unfold ins
    split
    · simp
    · rw [List.mem_cons, ins_mem s r t, List.mem_cons]
      exact ⟨fun h => h.elim (fun h => .inr (.inl h)) fun h => h.elim .inl fun h => .inr (.inr h), fun h => h.elim (fun h => .inr (.inl h)) fun h => h.elim .inl fun h => .inr (.inr h)⟩
theorem ins_sorted (s : Sp) : ∀ (l : List Sp), l.Pairwise lt → s ∉ l → (ins s l).Pairwise lt
  | [], _, _ => by simp [ins]
  | a :: r, h, hn => by
    rw [List.pairwise_cons] at h
    unfold ins
    split
    · rename_i hlt
      refine List.pairwise_cons.2 ⟨fun x hx => ?_, List.pairwise_cons.2 h⟩
      rcases List.mem_cons.1 hx with rfl | hx
      · exact hlt
      · exact lt_trans hlt (h.1 x hx)
    · rename_i hlt
      have hne : a ≠ s := fun e => hn (by rw [e]; simp)
      refine List.pairwise_cons.2 ⟨fun x hx => ?_, ins_sorted s r h.2 fun hm => hn (by simp [hm])⟩
      rcases (ins_mem s r x).1 hx with rfl | hx
      · rcases lt_total hne with h' | h'
        · exact h'
        · exact absurd h' hlt
      · exact h.1 x hx
theorem ins_len (s : Sp) : ∀ (l : List Sp), (ins s l).length = l.length + 1
  | [] => rfl
  | a :: r => by
    unfold ins
    split
    · simp
    · simp [ins_len s r]
theorem insert_ok (l : List Sp) (q : SlH) (s : Sp) (h : Hp) (hq : RdE h (slv q) eSp 3 l) (hl : l.length ≤ 4000) : Ct Try.prog 41 [slv q, vSp s] h (fun h' v => ∃ q' : SlH, v = slv q' ∧ RdE h' (slv q') eSp 3 (ins s l)) := by
  refine ct41 ?_
  intro w0
  unfold s41
  (repeat (refine Gs.box ?_; intro _))
  rename_i sb
  refine Gs.buildSlice (out := []) (by decide) ?_
  intro eb
  refine Gs.lp (β := SlH × List Sp × Bool × Nat) (fun u => (slv u.1, .bool u.2.2.1, I u.2.2.2)) (fun _ => h) (fun u => [.sl (slv u.1) 30 3 (fl eSp u.2.1), .blk sb [I s.1, I s.2.1, I s.2.2] 30]) (fun u => u.2.2.2 ≤ l.length ∧ u.2.1.length ≤ u.2.2.2 + 1 ∧ u.2.1 ++ (if u.2.2.1 = true then l.drop u.2.2.2 else ins s (l.drop u.2.2.2)) = ins s l) (fun u => l.length - u.2.2.2) ((some ⟨eb, 0, none⟩, 0, 0), [], false, 0) rfl ⟨Nat.zero_le _, by simp, by simp⟩ (fun _ s => s) ?_
  rintro ⟨qo, o, dn, i⟩ ⟨hi, hol, heq⟩ cont hc
  dsimp only at hi hol heq hc ⊢
  refine G.jk ?_; intro _
  refine Gs.lenE hq (by omega) ?_
  (repeat (refine G.step ?_))
  refine G.ifd ?_ ?_ <;> intro hlt
  · have hlt' : i < l.length := by omega
    have hdrop := List.drop_eq_getElem_cons hlt'
    refine G.jnk (fun a S' => ∃ (q1 : SlH) (o1 : List Sp) (dn1 : Bool), a = (slv q1, .bool dn1) ∧ o1.length ≤ i + 1 ∧ (o1 ++ [l[i]]) ++ (if dn1 = true then l.drop (i + 1) else ins s (l.drop (i + 1))) = ins s l ∧ S' = St w0 h h [.sl (slv q1) 30 3 (fl eSp o1), .blk sb [I s.1, I s.2.1, I s.2.2] 30]) ?_ ?_
    · rintro _ _ ⟨q1, o1, dn1, rfl, h1, h2, rfl⟩
      refine G.jk ?_; intro _
      refine Gs.indexE hq hlt' ?_
      intro b1 p1 hp1
      refine Gs.loadE hp1 ?_
      skip
      refine Gs.push (enc := eSp) (a := l[i]) (by decide) (by decide) (by omega) (by omega) ?_
      intro s' v'
      refine Gs.slH (v := v') ?_
      rintro q2 rfl
      (repeat (refine G.add (by omega) ?_))
      exact Gs.go (t' := (slv q2, .bool dn1, I ((i + 1 : Nat) : Int))) (hc (q2, o1 ++ [l[i]], dn1, i + 1) ⟨by dsimp only; omega, by simp; omega, h2⟩ (by dsimp only; omega)) (by simp)
    · intro k6 hk6
      refine G.jnP (fun j => j = .bool (decide (dn = false ∧ lt s l[i]))) ?_ ?_
      · rintro _ rfl
        refine G.jk ?_; intro _
        refine G.ifd ?_ ?_ <;> intro hgo
        · (repeat (refine G.step ?_))
          refine Gs.push (enc := eSp) (a := s) (by decide) (by decide) (by omega) (by omega) ?_
          intro s' v'
          refine Gs.slH (v := v') ?_
          rintro q2 rfl
          refine hk6 _ _ ⟨q2, o ++ [s], true, rfl, ?_, ?_, rfl⟩
          · have : o.length ≤ i := by
              have e := congrArg List.length heq
              rw [hgo.1] at e
              simp [ins_len] at e
              omega
            simp; omega
          · rw [hgo.1, hdrop] at heq
            simp only [Bool.false_eq_true, if_false, ins, hgo.2, if_true] at heq
            rw [← heq]
            simp
        · refine hk6 _ _ ⟨qo, o, dn, rfl, hol, ?_, rfl⟩
          cases dn with
          | true =>
            rw [hdrop] at heq
            simpa using heq
          | false =>
            have hnl : ¬ lt s l[i] := fun h => hgo ⟨rfl, h⟩
            rw [hdrop] at heq
            simp only [Bool.false_eq_true, if_false, ins, hnl] at heq ⊢
            rw [← heq]
            simp
      · intro K2 hK2
        (repeat (first | refine Gs.dr ?_ | refine G.qkp ?_))
        cases dn with
        | true =>
          (repeat (refine G.gdft ?_))
          exact hK2 _ (by rw [decide_eq_false]; exact fun h => by cases h.1)
        | false =>
          (repeat (first | refine Gs.qkb ?_ | refine G.gdtt ?_))
          refine Gs.qindexE hq hlt' ?_
          intro b1 p1 hp1
          refine Gs.qloadE hp1 ?_
          refine Gs.callv0 (less_ok s l[i] h) ?_
          refine hK2 _ ?_
          congr 1
          rw [decide_eq_decide]
          exact ⟨fun h => ⟨rfl, h⟩, fun h => h.2⟩
  · have hi' : i = l.length := by omega
    subst hi'
    rw [List.drop_length] at heq
    cases dn with
    | true =>
      (repeat (first | refine G.step ?_ | refine G.iff ?_))
      refine Gs.freezeE (enc := eSp) (v := slv qo) (by decide) ?_
      intro h' hle hr
      refine Gs.ret ⟨qo, rfl, ?_⟩
      rw [← heq]
      simpa using hr
    | false =>
      (repeat (first | refine G.step ?_ | refine G.ift ?_))
      refine Gs.push (enc := eSp) (a := s) (by decide) (by decide) (by omega) (by omega) ?_
      intro s' v'
      refine Gs.slH (v := v') ?_
      rintro q2 rfl
      refine Gs.freezeE (enc := eSp) (v := slv q2) (by decide) ?_
      intro h' hle hr
      refine Gs.ret ⟨q2, rfl, ?_⟩
      rw [← heq]
      simpa [ins] using hr
end Go.Proofs.Ytnepdmnkhjpnhaa
end

section
set_option linter.unusedVariables false
set_option linter.unusedSimpArgs false
set_option linter.unusedSectionVars false
set_option maxHeartbeats 8000000
namespace Go.Proofs.Ytnepdmnkhjpnhaa
open Go Go.Sk Go.Lp Go.RowKit
variable {M : Go.Sk.Mode}
theorem solveR_ok (g : Gr) (x : GrH) (s : Sp) (h : Hp) (hx : GrR h x g) (hs : GS g) : Ct Try.prog 14 [vG x, vSp s] h (fun _ v => v = .agg #[I (solv g s).1, I (solv g s).2]) := by
  refine ct14 ?_
  intro w0
  unfold s14
  (repeat (first | refine G.step ?_ | (refine Gs.box ?_; intro _) | (refine Gs.alloc ?_; intro _)))
  refine Gs.callv0 (validR_ok g x h hx hs) ?_
  (repeat (refine G.step ?_))
  refine G.ifb ?_ ?_ <;> intro h1
  · (repeat (first | refine G.step ?_ | refine Gs.store ?_ | refine G.retc ?_))
    exact Gs.ret (by unfold solv; rw [if_neg (by simpa using h1)])
  · have hb : gvB g = true := by simpa using h1
    have hg := gvB_iff.1 hb
    (repeat (refine G.step ?_))
    refine Gs.callv0 (spotR_ok g x s h hx hs) ?_
    (repeat (refine G.step ?_))
    refine G.ifb ?_ ?_ <;> intro h2
    · (repeat (first | refine G.step ?_ | refine Gs.store ?_ | refine G.retc ?_))
      exact Gs.ret (by unfold solv; rw [if_pos hb, if_neg (by simpa using h2)])
    · have hsn : SN g 16 s := by simpa using h2
      have hab := hsn.2.2
      (repeat (first | refine Gs.dr ?_ | refine G.qkp ?_ | refine Gs.qkb ?_))
      refine Gs.callv0 (absR_ok s.2.1 h (by omega)) ?_
      (repeat (first | refine G.withT ?_ | refine Gs.withb ?_))
      refine Gs.call0 (resultsR_ok g x s.2.1.natAbs h (abs16 hsn) hx hg) ?_
      rintro _ h1 le1 ⟨q, rfl, hq⟩
      (repeat (first | refine G.withT ?_ | refine Gs.withb ?_))
      refine Gs.callv0 (absR_ok s.2.1 h1 (by omega)) ?_
      (repeat (refine Gs.withb ?_))
      refine Gs.callv0 (leftR_ok g _ q s h1 (abs16 hsn) hg hq hsn.self) ?_
      (repeat (first | refine Gs.store ?_ | refine G.retc ?_ | refine G.qkp ?_))
      exact Gs.ret (by unfold solv; rw [if_pos hb, if_pos hsn])
/-- What the bounds are, so far. -/
structure BdI (g : Gr) (node : Int) (k lo hi : Int) : Prop where
  l0 : -9 ≤ lo
  l1 : lo < k
  l2 : -8 ≤ lo → LoP g node lo
  l3 : ∀ j, lo < j → j < k → ¬ LoP g node j
  h0 : -8 ≤ hi
  h1 : hi = 9 ∨ hi < k ∧ HiP g node hi
  h2 : ∀ j, j < hi → -8 ≤ j → j < k → ¬ HiP g node j
theorem boundsR_ok (g : Gr) (x : GrH) (node : Int) (h : Hp) (hx : GrR h x g) (hs : GS g) (hnode : -1152921504606846976 ≤ node ∧ node ≤ 1152921504606846976) : Ct Try.prog 21 [vG x, I node] h (fun _ v => ∃ b : Int × Int × Int, BdS g node b ∧ v = .agg #[I b.1, I b.2.1, I b.2.2]) := by
  refine ct21 ?_
  intro w0
  unfold s21
  have hl := hs.l
  (repeat (first | refine G.step ?_ | (refine Gs.box ?_; intro _) | (refine Gs.alloc ?_; intro _)))
  rename_i xb rb
  refine Gs.callv0 (validR_ok g x h hx hs) ?_
  (repeat (refine G.step ?_))
  refine G.ifb ?_ ?_ <;> intro h1
  · (repeat (first | refine G.step ?_ | refine Gs.store ?_ | refine G.retc ?_))
    exact Gs.ret ⟨(0, 0, 210), .inl ⟨by simpa using h1, rfl⟩, rfl⟩
  · have hb : gvB g = true := by simpa using h1
    have hg := gvB_iff.1 hb
    refine G.jnP (fun j => j = .bool (decide (node < 0 ∨ (g.L.length : Int) ≤ node))) ?_ ?_
    · rintro _ rfl
      refine G.jk ?_; intro _
      refine G.ifd ?_ ?_ <;> intro h2
      · (repeat (first | refine G.step ?_ | refine Gs.store ?_ | refine G.retc ?_))
        exact Gs.ret ⟨(0, 0, 1), .inr (.inl ⟨hb, by omega, rfl⟩), rfl⟩
      · (repeat (refine G.step ?_))
        refine Gs.call0 (resultsR_ok g x 8 h (by omega) hx hg) ?_
        rintro _ h1 le1 ⟨q, rfl, hq⟩
        (repeat (first | refine G.step ?_ | (refine Gs.alloc ?_; intro _) | refine Gs.store ?_))
        rename_i ob
        refine Gs.lp (β := Int × Int × Int) (fun u => I u.1) (fun _ => h1) (fun u => [.blk ob [I u.2.1, I u.2.2] 44, .blk rb [I 0, I 0, I 0] 46, .blk xb [slv x.1, slv x.2] 27]) (fun u => -8 ≤ u.1 ∧ u.1 ≤ 9 ∧ BdI g node u.1 u.2.1 u.2.2) (fun u => (9 - u.1).toNat) (-8, -9, 9) rfl ⟨by dsimp only; omega, by dsimp only; omega, ⟨by dsimp only; omega, by dsimp only; omega, fun h => by dsimp only at h; omega, fun j a b => by dsimp only at a b; omega, by dsimp only; omega, .inl rfl, fun j a b c => by dsimp only at a b c; omega⟩⟩ (fun _ s => s) ?_
        rintro ⟨k, lo, hi⟩ ⟨hk1, hk2, hI⟩ cont hc
        dsimp only at hk1 hk2 hI hc ⊢
        (repeat (first | refine G.step ?_ | (refine G.jk ?_; intro _)))
        refine G.ifd ?_ ?_ <;> intro hlt
        · refine G.jnk (fun (_ : Unit) S' => ∃ lo' hi' : Int, BdI g node (k + 1) lo' hi' ∧ S' = St w0 h h1 [.blk ob [I lo', I hi'] 44, .blk rb [I 0, I 0, I 0] 46, .blk xb [slv x.1, slv x.2] 27]) ?_ ?_
          · rintro _ _ ⟨lo', hi', hI', rfl⟩
            refine G.jk ?_; intro _
            (repeat (refine G.add (by omega) ?_))
            exact Gs.go (hc (k + 1, lo', hi') ⟨by dsimp only; omega, by dsimp only; omega, hI'⟩ (by dsimp only; omega)) rfl
          · intro k18 hk18
            refine G.jnk (fun (_ : Unit) S' => ∃ lo' : Int, (-9 ≤ lo' ∧ lo' < k + 1 ∧ (-8 ≤ lo' → LoP g node lo') ∧ ∀ j, lo' < j → j < k + 1 → ¬ LoP g node j) ∧ S' = St w0 h h1 [.blk ob [I lo', I hi] 44, .blk rb [I 0, I 0, I 0] 46, .blk xb [slv x.1, slv x.2] 27]) ?_ ?_
            · rintro _ _ ⟨lo', ⟨a0, a1, a2, a3⟩, rfl⟩
              refine G.jk ?_; intro _
              refine G.jnP (fun j => j = .bool (decide (8 < hi ∧ HiP g node k))) ?_ ?_
              · rintro _ rfl
                refine G.jk ?_; intro _
                refine G.ifd ?_ ?_ <;> intro hgo
                · (repeat (first | refine G.step ?_ | refine Gs.store ?_))
                  refine hk18 () _ ⟨lo', k, ⟨a0, a1, a2, a3, by omega, .inr ⟨by omega, hgo.2⟩, fun j b1 b2 b3 => hI.h2 j (by omega) b2 (by omega)⟩, rfl⟩
                · refine hk18 () _ ⟨lo', hi, ⟨a0, a1, a2, a3, hI.h0, ?_, fun j b1 b2 b3 => ?_⟩, rfl⟩
                  · rcases hI.h1 with e | ⟨e, e'⟩
                    · exact .inl e
                    · exact .inr ⟨by omega, e'⟩
                  · by_cases ej : j = k
                    · subst ej
                      rcases hI.h1 with e | ⟨e, e'⟩
                      · exact fun hh => hgo ⟨by omega, hh⟩
                      · omega
                    · exact hI.h2 j b1 b2 (by omega)
              · intro K2 hK2
                (repeat (refine G.step ?_))
                refine G.gddt ?_ ?_ <;> intro c1
                · (repeat (first | refine G.neg (by omega) ?_ | refine G.step ?_))
                  refine Gs.callv0 (leftR_ok g 8 q (node, -k, 0) h1 (by omega) hg hq (by unfold SN; dsimp only; omega)) ?_
                  (repeat (refine G.step ?_))
                  refine hK2 _ ?_
                  congr 1
                  rw [decide_eq_decide]
                  exact ⟨fun h => ⟨c1, h⟩, fun h => h.2⟩
                · exact hK2 _ (by rw [decide_eq_false]; exact fun h => c1 h.1)
            · intro k20 hk20
              (repeat (first | refine G.neg (by omega) ?_ | refine G.step ?_))
              refine Gs.callv0 (leftR_ok g 8 q (node, -k, 1) h1 (by omega) hg hq (by unfold SN; dsimp only; omega)) ?_
              (repeat (refine G.step ?_))
              refine G.ifd ?_ ?_ <;> intro c1
              · (repeat (first | refine G.step ?_ | refine Gs.store ?_))
                exact hk20 () _ ⟨k, ⟨by omega, by omega, fun _ => c1, fun j b1 b2 => by omega⟩, rfl⟩
              · refine hk20 () _ ⟨lo, ⟨hI.l0, by have := hI.l1; omega, hI.l2, fun j b1 b2 => ?_⟩, rfl⟩
                by_cases ej : j = k
                · subst ej; exact c1
                · exact hI.l3 j b1 (by omega)
        · have hk9 : k = 9 := by omega
          subst hk9
          have a0 := hI.l0
          have a1 := hI.l1
          (repeat (first | refine G.step ?_ | refine Gs.store ?_ | refine G.retc ?_))
          refine Gs.ret ⟨(lo, hi, 0), .inr (.inr ⟨hb, by omega, ⟨a0, by dsimp only; omega, hI.l2, fun j b1 b2 => hI.l3 j b1 (by omega)⟩, ⟨hI.h0, ?_, fun h8 => ?_, fun j b1 b2 => hI.h2 j b1 b2 ?_⟩, rfl⟩), rfl⟩
          · dsimp only
            rcases hI.h1 with e | ⟨e, _⟩ <;> omega
          · dsimp only at h8
            rcases hI.h1 with e | ⟨e, e'⟩
            · omega
            · exact e'
          · dsimp only at b1
            rcases hI.h1 with e | ⟨e, _⟩ <;> omega
    · intro K hK
      (repeat (refine G.step ?_))
      refine G.gddf ?_ ?_ <;> intro c1
      · exact hK _ (by rw [decide_eq_true]; exact .inl c1)
      · (repeat (refine G.step ?_))
        refine Gs.lenF hx.l (by omega) ?_
        (repeat (refine G.step ?_))
        exact hK _ (by congr 1; rw [decide_eq_decide]; omega)
theorem sameL_ok (l m : List Sp) (q r : SlH) (h : Hp) (hq : RdE h (slv q) eSp 3 l) (hr : RdE h (slv r) eSp 3 m) (hl : l.length ≤ 4611686018427387904) (hm : m.length ≤ 4611686018427387904) : Ct Try.prog 37 [slv q, slv r] h (fun _ v => v = .bool (decide (l = m))) := by
  refine ct37 ?_
  intro w0
  unfold s37
  refine Gs.lenE hq (by omega) ?_
  refine Gs.lenE hr (by omega) ?_
  (repeat (refine G.step ?_))
  refine G.ifd ?_ ?_ <;> intro hne
  · exact Gs.ret (by rw [decide_eq_false]; rintro rfl; exact hne rfl)
  · have hlen : l.length = m.length := by omega
    refine Gs.lp (β := Nat) (fun u => I u) (fun _ => h) (fun _ => []) (fun u => u ≤ l.length ∧ l.take u = m.take u) (fun u => l.length - u) 0 rfl ⟨Nat.zero_le _, by simp⟩ (fun _ s => s) ?_
    rintro i ⟨hi, heq⟩ cont hc
    refine G.jk ?_; intro _
    refine Gs.lenE hq (by omega) ?_
    (repeat (refine G.step ?_))
    refine G.ifd ?_ ?_ <;> intro hlt
    · have h1 : i < l.length := by omega
      have h2 : i < m.length := by omega
      refine Gs.dr ?_
      refine Gs.qindexE hq h1 ?_
      intro b1 o1 hp1
      refine Gs.qloadE hp1 ?_
      refine Gs.qindexE hr h2 ?_
      intro b2 o2 hp2
      refine Gs.qloadE hp2 ?_
      (repeat (refine G.qkp ?_))
      refine G.ifd ?_ ?_ <;> intro he
      · refine Gs.ret ?_
        rw [decide_eq_false]
        rintro rfl
        exact he rfl
      · have he : l[i] = m[i] := (sp_eq _ _).1 (Decidable.not_not.1 he)
        (repeat (refine G.add (by omega) ?_))
        refine Gs.go (t' := I ((i + 1 : Nat) : Int)) (hc (i + 1) ⟨by omega, ?_⟩ (by omega)) (by simp)
        rw [List.take_succ_eq_append_getElem h1, List.take_succ_eq_append_getElem h2, heq, he]
    · have hi' : i = l.length := by omega
      rw [hi', List.take_length, hlen, List.take_length] at heq
      exact Gs.ret (by rw [decide_eq_true heq])
end Go.Proofs.Ytnepdmnkhjpnhaa
end

section
set_option linter.unusedVariables false
set_option linter.unusedSimpArgs false
set_option linter.unusedSectionVars false
set_option maxHeartbeats 8000000
namespace Go.Proofs.Ytnepdmnkhjpnhaa
open Go Go.Sk Go.Lp Go.RowKit
variable {M : Go.Sk.Mode}
theorem ckT_cnt (g : Gr) (side : Int) (c : List Sp) (t : Sp) : ckT g side c t = if t.2.2 = side then decide (((mv g t).countP fun m => decide (m ∈ c)) ≠ 0) else decide (((mv g t).countP fun m => decide (m ∈ c)) = (mv g t).length) := by
  unfold ckT
  split
  · rw [Bool.eq_iff_iff, List.any_eq_true, decide_eq_true_eq]
    constructor
    · rintro ⟨m, h1, h2⟩ h0
      rw [List.countP_eq_zero] at h0
      exact h0 m h1 h2
    · intro h0
      apply Classical.byContradiction
      intro hn
      exact h0 (List.countP_eq_zero.2 fun m hm hd => hn ⟨m, hm, hd⟩)
  · rw [Bool.eq_iff_iff, List.all_eq_true, decide_eq_true_eq, List.countP_eq_length]
theorem checkR_ok (g : Gr) (x : GrH) (s : Sp) (side : Int) (q : SlH) (c : List Sp) (h : Hp) (hx : GrR h x g) (hs : GS g) (hq : RdE h (slv q) eSp 3 c) (hc : c.length ≤ 4611686018427387904) : Ct Try.prog 19 [vG x, vSp s, I side, slv q] h (fun _ v => v = .bool (ckB g s side c)) := by
  refine ct19 ?_
  intro w0
  unfold s19
  (repeat (refine Gs.box ?_; intro _))
  rename_i xb sb
  refine G.jnP (fun j => j = .bool (!(gvB g && (decide (SN g 16 s) && (decide (0 ≤ side ∧ side ≤ 1) && decide (s ∈ c)))))) ?_ ?_
  · rintro _ rfl
    refine G.jk ?_; intro _
    refine G.ifb ?_ ?_ <;> intro hb
    · refine Gs.ret ?_
      unfold ckB
      cases h1 : gvB g
      · rfl
      · rw [h1] at hb
        cases h2 : decide (SN g 16 s)
        · rfl
        · rw [h2] at hb
          cases h3 : decide (0 ≤ side ∧ side ≤ 1)
          · rfl
          · rw [h3] at hb
            have h4 : decide (s ∈ c) = false := by simpa using hb
            rw [h4]; simp
    · have hb : gvB g = true ∧ SN g 16 s ∧ (0 ≤ side ∧ side ≤ 1) ∧ s ∈ c := by simpa using hb
      obtain ⟨hgv, hsn, hside, hsc⟩ := hb
      have hg := gvB_iff.1 hgv
      have hck : ckB g s side c = ((c.all fun t => decide (SN g 16 t)) && c.all (ckT g side c)) := by
        unfold ckB; rw [hgv, decide_eq_true hsn, decide_eq_true hside, decide_eq_true hsc]; simp
      rw [hck]
      clear hck
      refine Gs.lp (β := Hp × Nat) (fun u => I u.2) (fun u => u.1) (fun u => [.blk sb [I s.1, I s.2.1, I s.2.2] 30, .blk xb [slv x.1, slv x.2] 27]) (fun u => Hle h u.1 ∧ u.2 ≤ c.length ∧ ∀ t ∈ c.take u.2, SN g 16 t ∧ ckT g side c t = true) (fun u => c.length - u.2) (h, 0) rfl ⟨Hle.refl h, Nat.zero_le _, by simp⟩ (fun _ s => s) ?_
      rintro ⟨h1, i⟩ ⟨hle, hi, hall⟩ cont hcont
      dsimp only at hle hi hall hcont ⊢
      have hq1 := hq.mono hle
      refine G.jk ?_; intro _
      refine Gs.lenE hq1 (by omega) ?_
      (repeat (refine G.step ?_))
      refine G.ifd ?_ ?_ <;> intro hlt
      · have hlt' : i < c.length := by omega
        have htake := List.take_succ_eq_append_getElem hlt'
        (repeat (first | refine Gs.dr ?_ | refine Gs.qkb ?_))
        refine Gs.qindexE hq1 hlt' ?_
        intro b1 o1 hp1
        refine Gs.qloadE hp1 ?_
        have hcm : c[i] ∈ c := List.getElem_mem hlt'
        generalize hct : c[i] = t at htake hcm
        refine Gs.callv0 (spotR_ok g x t h1 (hx.mono hle) hs) ?_
        (repeat (refine G.qkp ?_))
        refine G.ifb ?_ ?_ <;> intro hv
        · refine Gs.ret ?_
          have : (c.all fun t => decide (SN g 16 t)) = false := by
            rw [List.all_eq_false]
            exact ⟨t, hcm, by simpa using hv⟩
          rw [this]; rfl
        · have hv : SN g 16 t := by simpa using hv
          (repeat (first | refine Gs.dr ?_ | refine Gs.qkb ?_))
          refine Gs.qindexE hq1 hlt' ?_
          intro b2 o2 hp2
          refine Gs.qloadE hp2 ?_
          rw [hct]
          refine Gs.call0 (movesR_ok g x t h1 (hx.mono hle) hg hv) ?_
          rintro _ h2 le2 ⟨mq, rfl, hmq⟩
          have hml := mv_len hg (s := t) ⟨hv.1, hv.2.1⟩
          have hq2 := hq1.mono le2
          have hcT := ckT_cnt g side c t
          generalize mv g t = ms at *
          refine Gs.lp (β := Nat) (fun k => (I ((ms.take k).countP fun m => decide (m ∈ c) : Nat), I k)) (fun _ => h2) (fun _ => [.blk sb [I s.1, I s.2.1, I s.2.2] 30, .blk xb [slv x.1, slv x.2] 27]) (fun k => k ≤ ms.length) (fun k => ms.length - k) 0 rfl (Nat.zero_le _) (fun _ s => s) ?_
          intro k hk cont2 hcont2
          have hcle : ((ms.take k).countP fun m => decide (m ∈ c)) ≤ 33 := by
            have h1 := List.countP_le_length (p := fun m => decide (m ∈ c)) (l := ms.take k)
            have h2 : (ms.take k).length ≤ ms.length := List.length_take_le' k ms
            omega
          refine G.jk ?_; intro _
          refine Gs.lenE hmq (by omega) ?_
          (repeat (refine G.step ?_))
          refine G.ifd ?_ ?_ <;> intro hltk
          · have hk' : k < ms.length := by omega
            have htk := List.take_succ_eq_append_getElem hk'
            refine G.jnP (fun j => j = I ((ms.take (k + 1)).countP fun m => decide (m ∈ c) : Nat)) ?_ ?_
            · rintro _ rfl
              refine G.jk ?_; intro _
              (repeat (refine G.add (by omega) ?_))
              exact Gs.go (t' := (I ((ms.take (k + 1)).countP fun m => decide (m ∈ c) : Nat), I ((k + 1 : Nat) : Int))) (hcont2 (k + 1) (by omega) (by omega)) (by simp)
            · intro K2 hK2
              rw [htk, List.countP_append] at hK2
              refine Gs.indexE hmq hk' ?_
              intro b3 o3 hp3
              refine Gs.loadE hp3 ?_
              generalize ms[k] = m at *
              refine Gs.callv0 (has_ok c q m h2 hq2 hc) ?_
              refine G.ifd ?_ ?_ <;> intro hin
              · (repeat (refine G.add (by omega) ?_))
                exact hK2 _ (by simp [hin])
              · exact hK2 _ (by simp [hin])
          · have hk' : k = ms.length := by omega
            subst hk'
            rw [List.take_length] at hcle ⊢
            refine G.jnP (fun j => j = .bool (!ckT g side c t)) ?_ ?_
            · rintro _ rfl
              refine G.jk ?_; intro _
              refine G.ifb ?_ ?_ <;> intro hf
              · refine Gs.ret ?_
                have : c.all (ckT g side c) = false := by
                  rw [List.all_eq_false]
                  exact ⟨t, hcm, by simpa using hf⟩
                rw [this]; simp
              · have hT : ckT g side c t = true := by simpa using hf
                (repeat (refine G.add (by omega) ?_))
                refine Gs.go (t' := I ((i + 1 : Nat) : Int)) (hcont (h2, i + 1) ⟨hle.trans le2, by dsimp only; omega, ?_⟩ (by dsimp only; omega)) (by simp)
                dsimp only
                rw [htake]
                intro u hu
                rcases List.mem_append.1 hu with hu | hu
                · exact hall u hu
                · rw [List.mem_singleton] at hu; subst hu; exact ⟨hv, hT⟩
            · intro K2 hK2
              rw [hcT] at hK2
              have hcl2 := List.countP_le_length (p := fun m => decide (m ∈ c)) (l := ms)
              generalize (ms.countP fun m => decide (m ∈ c)) = n at *
              refine Gs.indexE hq2 hlt' ?_
              intro b3 o3 hp3
              rw [hct] at hp3
              (repeat (refine G.step ?_))
              refine Gs.loadP1 hp3.field ?_
              (repeat (refine G.step ?_))
              refine G.gddt ?_ ?_ <;> intro hw
              · rw [if_pos hw] at hK2
                (repeat (refine G.step ?_))
                refine G.gddf ?_ ?_ <;> intro hn0
                · exact hK2 _ (by rw [decide_eq_false (by omega)]; rfl)
                · refine Gs.indexE hq2 hlt' ?_
                  intro b4 o4 hp4
                  rw [hct] at hp4
                  (repeat (refine G.step ?_))
                  refine Gs.loadP1 hp4.field ?_
                  (repeat (refine G.step ?_))
                  refine G.gddt ?_ ?_ <;> intro hw2
                  · exact absurd hw hw2
                  · exact hK2 _ (by rw [decide_eq_true (by omega)]; rfl)
              · rw [if_neg hw] at hK2
                refine Gs.indexE hq2 hlt' ?_
                intro b4 o4 hp4
                rw [hct] at hp4
                (repeat (refine G.step ?_))
                refine Gs.loadP1 hp4.field ?_
                (repeat (refine G.step ?_))
                refine G.gddt ?_ ?_ <;> intro hw2
                · refine Gs.lenE hmq (by omega) ?_
                  (repeat (refine G.step ?_))
                  refine hK2 _ ?_
                  rw [← decide_not]
                  congr 1
                  rw [decide_eq_decide]
                  omega
                · exact absurd hw hw2
      · have hi' : i = c.length := by omega
        rw [hi', List.take_length] at hall
        refine Gs.ret ?_
        have e1 : (c.all fun t => decide (SN g 16 t)) = true := by
          rw [List.all_eq_true]; exact fun t ht => decide_eq_true (hall t ht).1
        have e2 : c.all (ckT g side c) = true := by
          rw [List.all_eq_true]; exact fun t ht => (hall t ht).2
        rw [e1, e2]; rfl
  · intro K hK
    (repeat (refine G.step ?_))
    refine Gs.callv0 (validR_ok g x h hx hs) ?_
    (repeat (refine G.step ?_))
    refine G.gdbf ?_ ?_ <;> intro h1
    · exact hK _ (by have : gvB g = false := by simpa using h1
                     rw [this]; rfl)
    · have h1 : gvB g = true := by simpa using h1
      rw [h1] at hK
      (repeat (refine G.step ?_))
      refine Gs.callv0 (spotR_ok g x s h hx hs) ?_
      (repeat (refine G.step ?_))
      refine G.gdbf ?_ ?_ <;> intro h2
      · exact hK _ (by have : decide (SN g 16 s) = false := by simpa using h2
                       rw [this]; rfl)
      · have h2 : decide (SN g 16 s) = true := by simpa using h2
        rw [h2] at hK
        (repeat (refine G.step ?_))
        refine G.gddf ?_ ?_ <;> intro h3
        · exact hK _ (by rw [decide_eq_false (by omega)]; rfl)
        · (repeat (refine G.step ?_))
          refine G.gddf ?_ ?_ <;> intro h4
          · exact hK _ (by rw [decide_eq_false (by omega)]; rfl)
          · (repeat (refine G.step ?_))
            refine Gs.callv0 (has_ok c q s h hq hc) ?_
            (repeat (refine G.step ?_))
            refine hK _ ?_
            rw [decide_eq_true (show 0 ≤ side ∧ side ≤ 1 by omega)]
            simp
end Go.Proofs.Ytnepdmnkhjpnhaa
end

section
set_option linter.unusedVariables false
set_option linter.unusedSimpArgs false
set_option linter.unusedSectionVars false
set_option maxHeartbeats 8000000
namespace Go.Proofs.Ytnepdmnkhjpnhaa
open Go Go.Sk Go.Lp Go.RowKit
variable {M : Go.Sk.Mode}
/-- What is reached so far; the first i are closed. -/
structure PI (g : Gr) (side : Int) (s : Sp) (l : List Sp) (i : Nat) : Prop where
  nodup : l.Nodup
  rch : ∀ t ∈ l, Rch g side s t
  s : s ∈ l
  le : i ≤ l.length
  cl : ∀ t ∈ l.take i, Cl g side t l
theorem Cl.mono {g : Gr} {side : Int} {u : Sp} {l m : List Sp} (h : Cl g side u l) (hs : ∀ t ∈ l, t ∈ m) : Cl g side u m := fun x hx ha => hs x (h x hx ha)
def sortI (l : List Sp) : List Sp := l.foldl (fun a t => ins t a) []
theorem sortI_ok : ∀ (l a : List Sp), a.Pairwise lt → l.Nodup → (∀ t ∈ l, t ∉ a) → (l.foldl (fun a t => ins t a) a).Pairwise lt ∧ (∀ t, t ∈ l.foldl (fun a t => ins t a) a ↔ t ∈ a ∨ t ∈ l) ∧ (l.foldl (fun a t => ins t a) a).length = a.length + l.length
  | [], a, h, _, _ => ⟨h, by simp, by simp⟩
  | t :: l, a, h, hn, hd => by
    rw [List.nodup_cons] at hn
    obtain ⟨h1, h2, h3⟩ := sortI_ok l (ins t a) (ins_sorted t a h (hd t (by simp))) hn.2 (fun u hu hm => by
      rcases (ins_mem t a u).1 hm with rfl | hm
      · exact hn.1 hu
      · exact hd u (by simp [hu]) hm)
    rw [List.foldl_cons]
    refine ⟨h1, fun u => ?_, by rw [h3, ins_len]; simp; omega⟩
    rw [h2, ins_mem, List.mem_cons]
    exact ⟨fun h => h.elim (fun h => h.elim (fun h => .inr (.inl h)) .inl) fun h => .inr (.inr h), fun h => h.elim (fun h => .inl (.inr h)) fun h => h.elim (fun h => .inl (.inl h)) .inr⟩
theorem proveR_ok (g : Gr) (x : GrH) (s : Sp) (side : Int) (h : Hp) (hx : GrR h x g) (hs : GS g) : Ct Try.prog 17 [vG x, vSp s, I side] h (fun h' v => ∃ (q : SlH) (l : List Sp) (e : Int), PvS g s side l e ∧ RdE h' (slv q) eSp 3 l ∧ v = .agg #[slv q, I e]) := by
  refine ct17 ?_
  intro w0
  unfold s17
  (repeat (first | refine G.step ?_ | (refine Gs.box ?_; intro _) | (refine Gs.alloc ?_; intro _)))
  rename_i xb sb rb
  refine Gs.callv0 (validR_ok g x h hx hs) ?_
  (repeat (refine G.step ?_))
  refine G.ifb ?_ ?_ <;> intro h1
  · (repeat (first | refine G.step ?_ | refine Gs.store ?_ | refine G.retc ?_))
    exact Gs.ret ⟨(none, 0, 0), [], 210, .inl ⟨by simpa using h1, rfl, rfl⟩, RdE.nil _ _ _, rfl⟩
  · have hgv : gvB g = true := by simpa using h1
    have hg := gvB_iff.1 hgv
    refine G.jnP (fun j => j = .bool (!(decide (SN g 16 s) && decide (0 ≤ side ∧ side ≤ 1)))) ?_ ?_
    · rintro _ rfl
      refine G.jk ?_; intro _
      refine G.ifb ?_ ?_ <;> intro hb
      · (repeat (first | refine G.step ?_ | refine Gs.store ?_ | refine G.retc ?_))
        exact Gs.ret ⟨(none, 0, 0), [], 1, .inr (.inl ⟨hgv, (fun h => by rw [decide_eq_true h.1, decide_eq_true h.2] at hb; cases hb), rfl, rfl⟩), RdE.nil _ _ _, rfl⟩
      · have hb : SN g 16 s ∧ 0 ≤ side ∧ side ≤ 1 := by simpa using hb
        have hsn := hb.1
        have hab := hsn.2.2
        have hsd : side = 0 ∨ side = 1 := by omega
        (repeat (refine G.step ?_))
        refine Gs.callv0 (absR_ok s.2.1 h (by omega)) ?_
        (repeat (refine G.step ?_))
        have hn16 := abs16 hsn
        have hs0 := hsn.self
        generalize hnn : s.2.1.natAbs = n at *
        refine Gs.call0 (resultsR_ok g x n h hn16 hx hg) ?_
        rintro _ h1 le1 ⟨kq, rfl, hkq⟩
        (repeat (refine G.step ?_))
        refine Gs.callv0 (holdsR_ok g n kq s side h1 hn16 hg hkq hs0 hsd) ?_
        (repeat (refine G.step ?_))
        refine G.ifb ?_ ?_ <;> intro hh
        · (repeat (first | refine G.step ?_ | refine Gs.store ?_ | refine G.retc ?_))
          exact Gs.ret ⟨(none, 0, 0), [], 211, .inr (.inr (.inl ⟨hgv, hb, (fun hd => by unfold Hd at hd; rw [decide_eq_true hd] at hh; cases hh), rfl, rfl⟩)), RdE.nil _ _ _, rfl⟩
        · have hhd : Hd g side s := by unfold Hd; simpa using hh
          (repeat (refine G.step ?_))
          refine Gs.buildSlice (out := [I s.1, I s.2.1, I s.2.2]) (by decide) ?_
          intro eb
          refine Gs.sel (L' := [.sl (.slice (some ⟨eb, 0, none⟩) 1 1) 30 3 [I s.1, I s.2.1, I s.2.2], .blk rb [.slice none 0 0, I 0] 37, .blk sb [I s.1, I s.2.1, I s.2.2] 30, .blk xb [slv x.1, slv x.2] 27]) ?_
          refine Gs.lp (β := Hp × SlH × List Sp × Nat) (fun u => (slv u.2.1, I u.2.2.2)) (fun u => u.1) (fun u => [.sl (slv u.2.1) 30 3 (fl eSp u.2.2.1), .blk rb [.slice none 0 0, I 0] 37, .blk sb [I s.1, I s.2.1, I s.2.2] 30, .blk xb [slv x.1, slv x.2] 27]) (fun u => Hle h1 u.1 ∧ PI g side s u.2.2.1 u.2.2.2) (fun u => 2112 - u.2.2.2) (h1, (some ⟨eb, 0, none⟩, 1, 1), [s], 0) rfl ⟨Hle.refl h1, by simp, by intro t ht; simp at ht; subst ht; exact .here, by simp, Nat.zero_le _, by simp⟩ (fun _ s => s) ?_
          rintro ⟨h2, q, l, i⟩ ⟨le2, hPI⟩ cont hc
          dsimp only at le2 hPI hc ⊢
          have hll : l.length ≤ 2112 := SN_bound hg hn16 hPI.nodup fun t ht => (hPI.rch t ht).SN hg hs0
          refine G.jk ?_; intro _
          refine Gs.olen (enc := eSp) (l := l) (by omega) ?_
          (repeat (refine G.step ?_))
          refine G.ifd ?_ ?_ <;> intro hlt
          · have hlt' : i < l.length := by omega
            have htake := List.take_succ_eq_append_getElem hlt'
            (repeat (first | refine Gs.dr ?_ | refine Gs.qkb ?_))
            refine Gs.qoindex (enc := eSp) (l := l) hlt' ?_
            intro b1 o1 hp1
            refine Gs.qoloadE hp1 ?_
            have htm : l[i] ∈ l := List.getElem_mem hlt'
            have hti : l[i]? = some l[i] := List.getElem?_eq_getElem hlt'
            generalize l[i] = t at *
            have htr := hPI.rch t htm
            have hts := htr.SN hg hs0
            refine Gs.call0 (movesR_ok g x t h2 (hx.mono (le1.trans le2)) hg (hts.mono hn16)) ?_
            rintro _ h3 le3 ⟨mq, rfl, hmq⟩
            have hml := mv_len hg (s := t) ⟨hts.1, hts.2.1⟩
            refine Gs.lp (β := SlH × List Sp × Nat) (fun u => (slv u.1, I u.2.2)) (fun _ => h3) (fun u => [.sl (slv u.1) 30 3 (fl eSp u.2.1), .blk rb [.slice none 0 0, I 0] 37, .blk sb [I s.1, I s.2.1, I s.2.2] 30, .blk xb [slv x.1, slv x.2] 27]) (fun u => u.2.2 ≤ (mv g t).length ∧ u.2.1.Nodup ∧ (∀ v ∈ u.2.1, Rch g side s v) ∧ (∃ new, u.2.1 = l ++ new) ∧ ∀ m ∈ (mv g t).take u.2.2, (t.2.2 ≠ side ∨ Hd g side m) → m ∈ u.2.1) (fun u => (mv g t).length - u.2.2) (q, l, 0) rfl ⟨Nat.zero_le _, hPI.nodup, hPI.rch, ⟨[], by simp⟩, by simp⟩ (fun _ s => s) ?_
            rintro ⟨q', l', k⟩ ⟨hk, hnd, hrch, ⟨new, hnew⟩, hdone⟩ cont2 hc2
            dsimp only at hk hnd hrch hnew hdone hc2 ⊢
            have hll' : l'.length ≤ 2112 := SN_bound hg hn16 hnd fun t ht => (hrch t ht).SN hg hs0
            refine G.jk ?_; intro _
            refine Gs.lenE hmq (by omega) ?_
            (repeat (refine G.step ?_))
            refine G.ifd ?_ ?_ <;> intro hltk
            · have hk' : k < (mv g t).length := by omega
              have htk := List.take_succ_eq_append_getElem hk'
              have hmm : (mv g t)[k] ∈ mv g t := List.getElem_mem hk'
              refine G.jnk (fun a S' => ∃ (q2 : SlH) (l2 : List Sp), a = slv q2 ∧ l2.Nodup ∧ (∀ v ∈ l2, Rch g side s v) ∧ (∃ new, l2 = l ++ new) ∧ (∀ m ∈ (mv g t).take (k + 1), (t.2.2 ≠ side ∨ Hd g side m) → m ∈ l2) ∧ S' = St w0 h h3 [.sl (slv q2) 30 3 (fl eSp l2), .blk rb [.slice none 0 0, I 0] 37, .blk sb [I s.1, I s.2.1, I s.2.2] 30, .blk xb [slv x.1, slv x.2] 27]) ?_ ?_
              · rintro _ _ ⟨q2, l2, rfl, a1, a2, a3, a4, rfl⟩
                refine G.jk ?_; intro _
                (repeat (refine G.add (by omega) ?_))
                exact Gs.go (t' := (slv q2, I ((k + 1 : Nat) : Int))) (hc2 (q2, l2, k + 1) ⟨by dsimp only; omega, a1, a2, a3, a4⟩ (by dsimp only; omega)) (by simp)
              · intro k34 hk34
                rw [htk] at hk34
                refine G.jnP (fun j => j = .bool (decide ((mv g t)[k] ∉ l' ∧ (t.2.2 ≠ side ∨ left g (mv g t)[k] ≠ lost side)))) ?_ ?_
                · rintro _ rfl
                  refine G.jk ?_; intro _
                  refine G.ifd ?_ ?_ <;> intro hgo
                  · refine Gs.indexE hmq hk' ?_
                    intro b3 o3 hp3
                    refine Gs.loadE hp3 ?_
                    generalize (mv g t)[k] = m at *
                    refine Gs.push (enc := eSp) (a := m) (by decide) (by decide) (by omega) (by omega) ?_
                    intro s' v'
                    refine Gs.slH (v := v') ?_
                    rintro q2 rfl
                    refine hk34 _ _ ⟨q2, l' ++ [m], rfl, ?_, fun v hv => ?_, ⟨new ++ [m], by rw [hnew]; simp⟩, fun m' hm' ha' => ?_, rfl⟩
                    · rw [List.nodup_append]
                      exact ⟨hnd, by simp, fun a ha b hb e => hgo.1 (by rw [List.mem_singleton] at hb; subst hb; subst e; exact ha)⟩
                    · rcases List.mem_append.1 hv with hv | hv
                      · exact hrch v hv
                      · rw [List.mem_singleton] at hv; subst hv; exact .step htr hmm hgo.2
                    · rcases List.mem_append.1 hm' with hm' | hm'
                      · exact List.mem_append_left _ (hdone m' hm' ha')
                      · rw [List.mem_singleton] at hm'; subst hm'; simp
                  · generalize (mv g t)[k] = m at *
                    refine hk34 _ _ ⟨q', l', rfl, hnd, hrch, ⟨new, hnew⟩, fun m' hm' ha' => ?_, rfl⟩
                    rcases List.mem_append.1 hm' with hm' | hm'
                    · exact hdone m' hm' ha'
                    · rw [List.mem_singleton] at hm'; subst hm'
                      exact Decidable.byContradiction fun hn => hgo ⟨hn, ha'⟩
                · intro K2 hK2
                  refine Gs.indexE hmq hk' ?_
                  intro b3 o3 hp3
                  refine Gs.loadE hp3 ?_
                  refine has_in l' q' (mv g t)[k] (by omega) ?_
                  (repeat (refine G.step ?_))
                  refine G.gdbt ?_ ?_ <;> intro c1
                  · have hit : i < l'.length := by rw [hnew]; simp; omega
                    have hti' : l'[i] = t := by
                      have : l'[i]? = some t := by rw [hnew, List.getElem?_append_left hlt']; exact hti
                      rw [List.getElem?_eq_getElem hit] at this
                      exact Option.some.inj this
                    have hni : (mv g t)[k] ∉ l' := by simpa using c1
                    refine Gs.oindex (enc := eSp) (l := l') hit ?_
                    intro b4 o4 hp4
                    rw [hti'] at hp4
                    (repeat (refine G.step ?_))
                    refine Gs.oloadE (enc := eInt) (x := t.2.2) hp4.field ?_
                    (repeat (refine G.step ?_))
                    refine G.gddf ?_ ?_ <;> intro c2
                    · exact hK2 _ (by rw [decide_eq_true]; exact ⟨hni, .inl c2⟩)
                    · refine Gs.indexE hmq hk' ?_
                      intro b5 o5 hp5
                      refine Gs.loadE hp5 ?_
                      refine Gs.callv0 (holdsR_ok g n kq (mv g t)[k] side h3 hn16 hg (by
                        obtain ⟨out, a1, a2, a3⟩ := hkq
                        exact ⟨out, a1.mono (le2.trans le3), a2, a3⟩) (mv_SN hg hts hmm) hsd) ?_
                      refine hK2 _ ?_
                      congr 1
                      rw [decide_eq_decide]
                      exact ⟨fun h => ⟨hni, .inr h⟩, fun h => h.2.elim (fun h' => absurd h' c2) id⟩
                  · refine hK2 _ ?_
                    have hni : (mv g t)[k] ∈ l' := by simpa using c1
                    rw [decide_eq_false]
                    exact fun h => h.1 hni
            · have hk' : k = (mv g t).length := by omega
              rw [hk', List.take_length] at hdone
              (repeat (refine G.add (by omega) ?_))
              refine Gs.go (t' := (slv q', I ((i + 1 : Nat) : Int))) (hc (h3, q', l', i + 1) ⟨le2.trans le3, hnd, hrch, by rw [hnew]; simp [hPI.s], by dsimp only; rw [hnew]; simp; omega, fun v hv => ?_⟩ (by dsimp only; omega)) (by simp)
              have e : l'.take (i + 1) = l.take (i + 1) := by rw [hnew, List.take_append_of_le_length (by omega)]
              dsimp only at hv ⊢
              rw [e, htake] at hv
              rcases List.mem_append.1 hv with hv | hv
              · exact (hPI.cl v hv).mono fun z hz => by rw [hnew]; exact List.mem_append_left _ hz
              · rw [List.mem_singleton] at hv; subst hv; exact hdone
          · have hi' : i = l.length := by have := hPI.le; omega
            have hcl := hPI.cl
            rw [hi', List.take_length] at hcl
            obtain ⟨so1, so2, so3⟩ := sortI_ok l [] .nil hPI.nodup (by simp)
            have hprs : PrS g side s (sortI l) := ⟨so1, fun t => by
              unfold sortI
              rw [so2]
              simp only [List.not_mem_nil, false_or]
              exact ⟨hPI.rch t, fun hr => hr.closed hPI.s hcl⟩⟩
            refine Gs.freezeE (enc := eSp) (v := slv q) (by decide) ?_
            intro h3 le3 hql
            refine Gs.buildSlice (out := []) (by decide) ?_
            intro eb2
            refine Gs.freezeE (enc := eSp) (v := slv (some ⟨eb2, 0, none⟩, 0, 0)) (l := []) (by decide) ?_
            intro h4 le4 hq0
            refine Gs.lp (β := Hp × SlH × Nat) (fun u => (slv u.2.1, I u.2.2)) (fun u => u.1) (fun u => [.blk rb [.slice none 0 0, I 0] 37, .blk sb [I s.1, I s.2.1, I s.2.2] 30, .blk xb [slv x.1, slv x.2] 27]) (fun u => Hle h4 u.1 ∧ u.2.2 ≤ l.length ∧ RdE u.1 (slv u.2.1) eSp 3 (sortI (l.take u.2.2))) (fun u => l.length - u.2.2) (h4, (some ⟨eb2, 0, none⟩, 0, 0), 0) rfl ⟨Hle.refl h4, Nat.zero_le _, by simpa [sortI] using hq0⟩ (fun _ s => s) ?_
            rintro ⟨h5, q5, j⟩ ⟨le5, hj, hq5⟩ cont2 hc2
            dsimp only at le5 hj hq5 hc2 ⊢
            refine G.jk ?_; intro _
            have hql5 := hql.mono (le4.trans le5)
            refine Gs.lenE hql5 (by omega) ?_
            (repeat (refine G.step ?_))
            refine G.ifd ?_ ?_ <;> intro hltj
            · have hj' : j < l.length := by omega
              refine Gs.indexE hql5 hj' ?_
              intro b6 o6 hp6
              refine Gs.loadE hp6 ?_
              have hsl : (sortI (l.take j)).length ≤ 4000 := by
                have hnd := hPI.nodup.sublist (List.take_sublist j l)
                obtain ⟨_, _, e⟩ := sortI_ok (l.take j) [] .nil hnd (by simp)
                unfold sortI
                rw [e]
                simp
                omega
              refine Gs.call0 (insert_ok (sortI (l.take j)) q5 l[j] h5 hq5 hsl) ?_
              rintro _ h6 le6 ⟨q6, rfl, hq6⟩
              (repeat (refine G.add (by omega) ?_))
              refine Gs.go (t' := (slv q6, I ((j + 1 : Nat) : Int))) (hc2 (h6, q6, j + 1) ⟨le5.trans le6, by dsimp only; omega, ?_⟩ (by dsimp only; omega)) (by simp)
              dsimp only
              rw [List.take_succ_eq_append_getElem hj']
              unfold sortI at hq6 ⊢
              rw [List.foldl_append]
              exact hq6
            · have hj' : j = l.length := by omega
              rw [hj', List.take_length] at hq5
              (repeat (first | refine G.step ?_ | refine Gs.store ?_ | refine G.retc ?_))
              exact Gs.ret ⟨q5, sortI l, 0, .inr (.inr (.inr ⟨hgv, hb, hhd, hprs, rfl⟩)), hq5, rfl⟩
    · intro K hK
      (repeat (refine G.step ?_))
      refine Gs.callv0 (spotR_ok g x s h hx hs) ?_
      (repeat (refine G.step ?_))
      refine G.gdbf ?_ ?_ <;> intro h2
      · exact hK _ (by have : decide (SN g 16 s) = false := by simpa using h2
                       rw [this]; rfl)
      · have h2 : decide (SN g 16 s) = true := by simpa using h2
        rw [h2] at hK
        (repeat (refine G.step ?_))
        refine G.gddf ?_ ?_ <;> intro h3
        · exact hK _ (by rw [decide_eq_false (by omega)]; rfl)
        · (repeat (refine G.step ?_))
          refine hK _ ?_
          rw [Bool.true_and, ← decide_not]
          congr 1
          rw [decide_eq_decide]
          omega
end Go.Proofs.Ytnepdmnkhjpnhaa
end

