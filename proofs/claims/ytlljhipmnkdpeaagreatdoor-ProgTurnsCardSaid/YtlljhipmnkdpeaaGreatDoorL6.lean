/-
  Lemmas for the proof of the statement of this claim: a part of the road, no statement of its own. Conditions: those that each lemma names.
-/
import Derived.Test.YtlljhipmnkdpeaaGreatDoorKd
section
set_option linter.unusedVariables false
set_option maxHeartbeats 4000000
namespace Go.Proofs.YtlljhipmnkdpeaaGreatDoor
open Go Go.Sk Go.Pr Go.RowKit
def at8 (t : List Int) (i : Nat) : Int := t.getD i 0
/-- A permutation of the eight directions. -/
structure Perm8 (t : List Int) : Prop where
  len : t.length = 8
  bd : ∀ i, i < 8 → 0 ≤ at8 t i ∧ at8 t i < 8
  inj : ∀ i j, i < 8 → j < 8 → at8 t i = at8 t j → i = j
theorem at8_set (t : List Int) (i j : Nat) (x : Int) (hi : i < t.length) : at8 (t.set i x) j = if i = j then x else at8 t j := by
  unfold at8
  simp only [List.getD_eq_getElem?_getD, List.getElem?_set]
  split
  · subst_vars; simp
  · rfl
theorem perm_start : Perm8 [0, 1, 2, 3, 4, 5, 6, 7] := ⟨rfl, by decide, fun i j hi hj h => (by decide : ∀ i, i < 8 → ∀ j, j < 8 → at8 [0, 1, 2, 3, 4, 5, 6, 7] i = at8 [0, 1, 2, 3, 4, 5, 6, 7] j → i = j) i hi j hj h⟩
theorem perm_swap {t : List Int} (h : Perm8 t) {i k : Nat} (hi : i < 8) (hk : k < 8) : Perm8 ((t.set i (at8 t k)).set k (at8 t i)) := by
  have hl := h.len
  have e : ∀ j, at8 ((t.set i (at8 t k)).set k (at8 t i)) j = if k = j then at8 t i else if i = j then at8 t k else at8 t j := by
    intro j
    rw [at8_set _ _ _ _ (by simp; omega), at8_set _ _ _ _ (by omega)]
  refine ⟨by simp [hl], fun j hj => ?_, fun a b ha hb hab => ?_⟩
  · rw [e]
    have h1 := h.bd i hi
    have h2 := h.bd k hk
    have h3 := h.bd j hj
    split
    · exact h1
    · split
      · exact h2
      · exact h3
  · rw [e, e] at hab
    have f1 := h.inj i
    have f2 := h.inj k
    have f3 := h.inj a
    have g1 := f1 b hi hb
    have g2 := f2 b hk hb
    have g3 := f3 b ha hb
    have g4 := f1 a hi ha
    have g5 := f2 a hk ha
    have g6 := f1 k hi hk
    have g7 := f2 i hk hi
    have g8 := f3 i ha hi
    have g9 := f3 k ha hk
    by_cases c1 : k = a <;> by_cases c2 : i = a <;> by_cases c3 : k = b <;> by_cases c4 : i = b <;> simp [c1, c2, c3, c4] at hab <;> omega
/-- What leads back, as far as it is written. -/
def Back (t b : List Int) (n : Nat) : Prop := b.length = 8 ∧ ∀ j, j < n → at8 b (at8 t j).toNat = (j : Int)
theorem back_next {t b : List Int} {n : Nat} (h : Perm8 t) (hb : Back t b n) (hn : n < 8) : Back t (b.set (at8 t n).toNat (n : Int)) (n + 1) := by
  obtain ⟨h1, h2⟩ := hb
  refine ⟨by simp [h1], fun j hj => ?_⟩
  have h3 := h.bd n hn
  have h4 := h.bd j (by omega)
  rw [at8_set _ _ _ _ (by omega)]
  by_cases hjn : j = n
  · subst hjn; simp
  · have h5 := h.inj n j hn (by omega)
    rw [if_neg (by omega)]
    exact h2 j (by omega)
theorem at8_getD (t : List Int) (s : Int) : t.getD s.toNat 0 = at8 t s.toNat := rfl
theorem turn_op (t : List Int) (s : Stp) : (turn t s).1 = s.1 := by unfold turn; split <;> rfl
theorem lead_bd {s : Stp} (h : stepB s 8 6 4 = true) (hl : leadB s.1 = true) : 0 ≤ s.2 ∧ s.2 < 8 := by
  rw [stepB_1 s 8 6 4 (by unfold leadB at hl; exact of_decide_eq_true hl)] at h
  exact of_decide_eq_true h
theorem turn_back {t b : List Int} (h : Perm8 t) (hb : Back t b 8) (s : Stp) (hs : stepB s 8 6 4 = true) : turn b (turn t s) = s := by
  by_cases hl : leadB s.1 = true
  · obtain ⟨h1, h2⟩ := lead_bd hs hl
    have e : turn t s = (s.1, at8 t s.2.toNat) := by unfold turn; rw [if_pos hl]; rfl
    rw [e]
    unfold turn
    rw [if_pos hl]
    have := hb.2 s.2.toNat (by omega)
    show (s.1, at8 b (at8 t s.2.toNat).toNat) = s
    rw [this, Int.toNat_of_nonneg h1]
  · have e : turn t s = s := by unfold turn; rw [if_neg hl]
    rw [e]
    unfold turn
    rw [if_neg hl]
theorem turned_back {t b : List Int} (h : Perm8 t) (hb : Back t b 8) (l : List Stp) (hs : ∀ s ∈ l, stepB s 8 6 4 = true) : (l.map (turn t)).map (turn b) = l := by
  rw [List.map_map]
  conv => rhs; rw [← List.map_id l]
  exact List.map_congr_left fun s hm => turn_back h hb s (hs s hm)
theorem cnt_turn (t : List Int) (l : List Stp) (op : Int) : cnt (l.map (turn t)) op = cnt l op := by
  unfold cnt
  rw [List.filter_map, List.length_map]
  congr 2
  funext s
  simp [isOp, turn_op]
theorem step_turn {t : List Int} (h : Perm8 t) {s : Stp} (hs : stepB s 8 6 4 = true) : stepB (turn t s) 8 6 4 = true := by
  by_cases hl : leadB s.1 = true
  · obtain ⟨h1, h2⟩ := lead_bd hs hl
    have e : turn t s = (s.1, at8 t s.2.toNat) := by unfold turn; rw [if_pos hl]; rfl
    rw [e, stepB_1 _ 8 6 4 (by unfold leadB at hl; exact of_decide_eq_true hl)]
    exact decide_eq_true (h.bd _ (by omega))
  · have e : turn t s = s := by unfold turn; rw [if_neg hl]
    rw [e]
    exact hs
theorem steps_of {l : List Stp} (h : validB l 8 6 4 = true) : ∀ s ∈ l, stepB s 8 6 4 = true := fun s hs => (mem_steps s).1 ((valid_parts h).2.2 s hs)
theorem valid_turn {t : List Int} (h : Perm8 t) {l : List Stp} (hv : validB l 8 6 4 = true) : validB (l.map (turn t)) 8 6 4 = true := by
  have hs := steps_of hv
  unfold validB at *
  obtain ⟨h1, h2, h3, h4, h5, h6⟩ := of_decide_eq_true hv
  refine decide_eq_true ⟨by simpa using h1, by simpa using h2, ?_, by rw [cnt_turn]; exact h4, by rw [cnt_turn]; exact h5, by rw [cnt_turn]; exact h6⟩
  unfold allB
  rw [List.all_eq_true]
  intro x hx
  obtain ⟨s, h7, rfl⟩ := List.mem_map.1 hx
  exact step_turn h (hs s h7)
theorem leads_turn (t : List Int) (l : List Stp) : leadsN (l.map (turn t)) = (leadsN l).map fun n => at8 t n.toNat := by
  unfold leadsN
  rw [List.filter_map, List.map_map, List.map_map]
  have : ((fun s : Stp => leadB s.1) ∘ turn t) = fun s => leadB s.1 := by funext s; simp [turn_op]
  rw [this]
  apply List.map_congr_left
  intro s hs
  have hl := (List.mem_filter.1 hs).2
  simp only [Function.comp]
  unfold turn
  rw [if_pos hl]
  rfl
theorem dirs_bd {l : List Stp} (hv : validB l 8 6 4 = true) : ∀ x ∈ dirs l, 0 ≤ x ∧ x < 8 := by
  intro x hx
  have := (dirs_rises l).2 x
  rw [this] at hx
  unfold leadsN at hx
  obtain ⟨s, hs, rfl⟩ := List.mem_map.1 hx
  obtain ⟨h1, h2⟩ := List.mem_filter.1 hs
  exact lead_bd (steps_of hv s h1) h2
theorem dirs_turn_mem {t : List Int} {l : List Stp} {x : Int} (hx : x ∈ dirs l) : at8 t x.toNat ∈ dirs (l.map (turn t)) := by
  rw [(dirs_rises _).2, leads_turn]
  exact List.mem_map.2 ⟨x, ((dirs_rises l).2 x).1 hx, rfl⟩
theorem rises_nodup {l : List Int} (h : Rises l) : l.Nodup := by
  refine List.Pairwise.imp ?_ h
  intro a b hab
  omega
theorem dirs_turn_len {t : List Int} (h : Perm8 t) {l : List Stp} (hv : validB l 8 6 4 = true) : (dirs (l.map (turn t))).length = (dirs l).length := by
  have hb := dirs_bd hv
  have n2 := rises_nodup (dirs_rises (l.map (turn t))).1
  have n1 : ((dirs l).map fun n => at8 t n.toNat).Nodup := by
    have hr := (dirs_rises l).1
    rw [List.nodup_iff_pairwise_ne, List.pairwise_map]
    refine List.Pairwise.imp_of_mem ?_ hr
    intro a b ha hb' hab he
    have h1 := hb a ha
    have h2 := hb b hb'
    have := h.inj a.toNat b.toNat (by omega) (by omega) he
    omega
  have hp : (dirs (l.map (turn t))).Perm ((dirs l).map fun n => at8 t n.toNat) := by
    rw [List.perm_ext_iff_of_nodup n2 n1]
    intro x
    rw [(dirs_rises _).2, leads_turn]
    simp only [List.mem_map]
    exact ⟨fun ⟨y, h1, h2⟩ => ⟨y, ((dirs_rises l).2 y).2 h1, h2⟩, fun ⟨y, h1, h2⟩ => ⟨y, ((dirs_rises l).2 y).1 h1, h2⟩⟩
  rw [hp.length_eq, List.length_map]
end Go.Proofs.YtlljhipmnkdpeaaGreatDoor
end

section
set_option linter.unusedVariables false
set_option maxHeartbeats 4000000
namespace Go.Proofs.YtlljhipmnkdpeaaGreatDoor
open Go Go.Sk Go.Pr Go.RowKit
theorem Gs.qoindexW {P : Program} {w0 : World} {h0 h : Hp} {L : List Itm} {KQ : WP → Value → WP} {α : Type} {enc : α → List Value} {t e e' sz by_ : Nat} {v : Value} {l : List α} {k : IntKind} {i : Nat} [ht : TSlice P t e sz by_] [he : Enc enc sz] [hs : Sl L v e' sz (fl enc l)] (hi : i < l.length)
    (hk : ∀ b o, OPt v (fl enc l) b o (enc l[i]) → (∃ off n cap, v = .slice (some ⟨b, off, none⟩) n cap ∧ o = off + i * sz) → Gs w0 h0 h L (KQ TrueC (ptr b o))) : Gs w0 h0 h L (Qk P (V (Instr.indexAt t v (.int k i))) KQ) := ⟨fun w s => by
  obtain ⟨_, _, _, _, _, h5⟩ := ht.spec
  obtain ⟨b, off, cap, rfl, hp⟩ := own_at hi h5 (s.sl hs.mem)
  haveI : Yd P TrueC (V (Instr.indexAt t (.slice (some ⟨b, off, none⟩) l.length cap) (.int k i))) (ptr b (off + i * sz)) := ⟨fun w _ => by
    have := indexAt_run (P := P) (t := t) (cap := cap) (b := b) (o := off) (k := k) (i := (i : Int)) (n := l.length) (by omega) w
    rw [Int.toNat_natCast] at this
    exact this⟩
  exact (G.qkp (hk _ _ hp ⟨off, _, cap, rfl, rfl⟩)).run w s⟩
theorem at8_get (t : List Int) (i : Nat) (hi : i < t.length) : t[i] = at8 t i := by unfold at8; simp [hi]
theorem turns_ok (l : List Int) (ws : List Int) (v : Value) (h : Hp) (hE : Env h) (hl : U8s h v l) (hws : ws.length = 8) (hwb : ∀ x ∈ ws, 0 ≤ x ∧ x ≤ 255) :
    Ct Tryz.prog 6 [v, .agg (ws.map (Value.int .u8)).toArray] h (fun _ x => x = .bool true) := by
  obtain ⟨a0, a1, a2, a3, a4, a5, a6, a7, rfl⟩ : ∃ a0 a1 a2 a3 a4 a5 a6 a7, ws = [a0, a1, a2, a3, a4, a5, a6, a7] := by
    match ws, hws with
    | [a0, a1, a2, a3, a4, a5, a6, a7], _ => exact ⟨_, _, _, _, _, _, _, _, rfl⟩
  show Ct Tryz.prog 6 [v, .agg #[.int .u8 a0, .int .u8 a1, .int .u8 a2, .int .u8 a3, .int .u8 a4, .int .u8 a5, .int .u8 a6, .int .u8 a7]] h _
  refine ct6 ?_
  intro w0
  unfold s6
  (repeat (first | refine G.add (by omega) ?_ | refine G.sub (by omega) ?_ | refine G.mul (by omega) ?_ | refine G.neg (by omega) ?_ | refine G.quo (by omega) (by omega) ?_ | refine G.rem (by omega) ?_ | refine G.shr (by omega) ?_ | refine G.conv (by omega) ?_ | refine G.step ?_ | refine G.buildA (by rfl) ?_ | (refine Gs.box ?_; intro _) | (refine Gs.alloc ?_; intro _) | refine Gs.store ?_ | refine G.retc ?_ | refine Gs.dr ?_ | refine G.qadd (by omega) ?_ | refine G.qsub (by omega) ?_ | refine G.qmul (by omega) ?_ | refine G.qneg (by omega) ?_ | refine G.qkp ?_ | refine Gs.qkb ?_ | refine G.withT ?_ | refine Gs.withb ?_ | refine G.ift ?_ | refine G.iff ?_ | refine G.gdtt ?_ | refine G.gdff ?_ | refine G.gdtf ?_ | refine G.gdft ?_ | (refine G.jk ?_; intro _)))
  rename_i w1
  have hcs : ([.int .u8 a0, .int .u8 a1, .int .u8 a2, .int .u8 a3, .int .u8 a4, .int .u8 a5, .int .u8 a6, .int .u8 a7] : List Value) = [a0, a1, a2, a3, a4, a5, a6, a7].map (Value.int .u8) := rfl
  rw [hcs]
  generalize [a0, a1, a2, a3, a4, a5, a6, a7] = ws at *
  refine sanity_call hE ?_
  refine G.jnk (fun a S' => ∃ h1, Hle h h1 ∧ Tight h1 a.1 (lib l) ∧ S' = St w0 h h1 [.sl a.2.1 3 1 (fl eInt [0, 1, 2, 3, 4, 5, 6, 7]), .sl a.2.2 3 1 (fl eInt (List.replicate 8 (0 : Int))), .blk w1 (ws.map (Value.int .u8)) 50]) ?_ ?_
  · rintro ⟨p, tv, bv⟩ _ ⟨h1, hle1, tp, rfl⟩
    have hE := hE.mono hle1
    have rp := tp.rd
    have hlib := lib_len l
    have hval := lib_valid l
    have hsteps := steps_of hval
    generalize lib l = P at *
    dsimp only
    refine G.jk ?_
    intro _
    refine Gs.lp (β := Nat × List Int) (fun b => I b.1) (fun _ => h1) (fun b => [.sl tv 3 1 (fl eInt b.2), .sl bv 3 1 (fl eInt (List.replicate 8 (0 : Int))), .blk w1 (ws.map (Value.int .u8)) 50]) (fun b => b.1 ≤ 8 ∧ Perm8 b.2) (fun b => 8 - b.1) (0, [0, 1, 2, 3, 4, 5, 6, 7]) rfl ⟨Nat.zero_le _, perm_start⟩ (fun _ h => h) ?_
    rintro ⟨i, t⟩ ⟨hi, ht⟩ cont hc
    dsimp only at *
    have htl := ht.len
    (repeat (first | refine G.add (by omega) ?_ | refine G.sub (by omega) ?_ | refine G.mul (by omega) ?_ | refine G.neg (by omega) ?_ | refine G.quo (by omega) (by omega) ?_ | refine G.rem (by omega) ?_ | refine G.shr (by omega) ?_ | refine G.conv (by omega) ?_ | refine G.step ?_ | refine G.buildA (by rfl) ?_ | (refine Gs.box ?_; intro _) | (refine Gs.alloc ?_; intro _) | refine Gs.store ?_ | refine G.retc ?_ | refine Gs.dr ?_ | refine G.qadd (by omega) ?_ | refine G.qsub (by omega) ?_ | refine G.qmul (by omega) ?_ | refine G.qneg (by omega) ?_ | refine G.qkp ?_ | refine Gs.qkb ?_ | refine G.withT ?_ | refine Gs.withb ?_ | refine G.ift ?_ | refine G.iff ?_ | refine G.gdtt ?_ | refine G.gdff ?_ | refine G.gdtf ?_ | refine G.gdft ?_ | (refine G.jk ?_; intro _)))
    refine G.ifd ?_ ?_ <;> intro hlt
    · have hi8 : i < 8 := by omega
      have hwi : i < ws.length := by omega
      have hwib := hwb _ (List.getElem_mem hwi)
      haveI : Yd Tryz.prog (St w0 h h1 [.sl tv 3 1 (fl eInt t), .sl bv 3 1 (fl eInt (List.replicate 8 (0 : Int))), .blk w1 (ws.map (Value.int .u8)) 50]) (V (Instr.indexAt 50 (ptr w1 0) (I i))) (ptr w1 i) := Yd.ixA (sz := 1) (e := 5) (n := 8) ⟨by omega, by omega⟩ (by omega)
      haveI : Nth (ws.map (Value.int .u8)) i (.int .u8 ws[i]) := ⟨by simp [hwi]⟩
      (repeat (first | refine G.add (by omega) ?_ | refine G.sub (by omega) ?_ | refine G.mul (by omega) ?_ | refine G.neg (by omega) ?_ | refine G.quo (by omega) (by omega) ?_ | refine G.rem (by omega) ?_ | refine G.shr (by omega) ?_ | refine G.conv (by omega) ?_ | refine G.step ?_ | refine G.buildA (by rfl) ?_ | (refine Gs.box ?_; intro _) | (refine Gs.alloc ?_; intro _) | refine Gs.store ?_ | refine G.retc ?_ | refine Gs.dr ?_ | refine G.qadd (by omega) ?_ | refine G.qsub (by omega) ?_ | refine G.qmul (by omega) ?_ | refine G.qneg (by omega) ?_ | refine G.qkp ?_ | refine Gs.qkb ?_ | refine G.withT ?_ | refine Gs.withb ?_ | refine G.ift ?_ | refine G.iff ?_ | refine G.gdtt ?_ | refine G.gdff ?_ | refine G.gdtf ?_ | refine G.gdft ?_ | (refine G.jk ?_; intro _)))
      rw [Int.tmod_eq_emod_of_nonneg hwib.1]
      obtain ⟨k, hk⟩ := Int.eq_ofNat_of_zero_le (show 0 ≤ ws[i] % 8 by omega)
      rw [hk]
      have hk8 : k < 8 := by omega
      (repeat (first | refine G.add (by omega) ?_ | refine G.sub (by omega) ?_ | refine G.mul (by omega) ?_ | refine G.neg (by omega) ?_ | refine G.quo (by omega) (by omega) ?_ | refine G.rem (by omega) ?_ | refine G.shr (by omega) ?_ | refine G.conv (by omega) ?_ | refine G.step ?_ | refine G.buildA (by rfl) ?_ | (refine Gs.box ?_; intro _) | (refine Gs.alloc ?_; intro _) | refine Gs.store ?_ | refine G.retc ?_ | refine Gs.dr ?_ | refine G.qadd (by omega) ?_ | refine G.qsub (by omega) ?_ | refine G.qmul (by omega) ?_ | refine G.qneg (by omega) ?_ | refine G.qkp ?_ | refine Gs.qkb ?_ | refine G.withT ?_ | refine Gs.withb ?_ | refine G.ift ?_ | refine G.iff ?_ | refine G.gdtt ?_ | refine G.gdff ?_ | refine G.gdtf ?_ | refine G.gdft ?_ | (refine G.jk ?_; intro _)))
      refine Gs.qoindex (l := t) (enc := eInt) (by omega) ?_
      intro b1 o1 p1
      refine Gs.qoload1 p1 ?_
      refine Gs.qoindex (l := t) (enc := eInt) (by omega) ?_
      intro b2 o2 p2
      refine Gs.qoload1 p2 ?_
      refine Gs.qoindexW (l := t) (enc := eInt) (i := i) (by omega) ?_
      intro b3 o3 p3 q3
      refine Gs.ostore (pa := []) (c := 0) (i := i) (a := t[k]) (l := t) (enc := eInt) (by omega) p3 q3 rfl (by decide) ?_
      refine Gs.qoindexW (l := t.set i t[k]) (enc := eInt) (i := k) (by simp; omega) ?_
      intro b4 o4 p4 q4
      refine Gs.ostore (pa := []) (c := 0) (i := k) (a := t[i]) (l := t.set i t[k]) (enc := eInt) (by simp; omega) p4 q4 rfl (by decide) ?_
      (repeat (first | refine G.add (by omega) ?_ | refine G.sub (by omega) ?_ | refine G.mul (by omega) ?_ | refine G.neg (by omega) ?_ | refine G.quo (by omega) (by omega) ?_ | refine G.rem (by omega) ?_ | refine G.shr (by omega) ?_ | refine G.conv (by omega) ?_ | refine G.step ?_ | refine G.buildA (by rfl) ?_ | (refine Gs.box ?_; intro _) | (refine Gs.alloc ?_; intro _) | refine Gs.store ?_ | refine G.retc ?_ | refine Gs.dr ?_ | refine G.qadd (by omega) ?_ | refine G.qsub (by omega) ?_ | refine G.qmul (by omega) ?_ | refine G.qneg (by omega) ?_ | refine G.qkp ?_ | refine Gs.qkb ?_ | refine G.withT ?_ | refine Gs.withb ?_ | refine G.ift ?_ | refine G.iff ?_ | refine G.gdtt ?_ | refine G.gdff ?_ | refine G.gdtf ?_ | refine G.gdft ?_ | (refine G.jk ?_; intro _)))
      rw [at8_get t k (by omega), at8_get t i (by omega)]
      exact Gs.goS (hc (i + 1, (t.set i (at8 t k)).set k (at8 t i)) ⟨by dsimp only; omega, perm_swap ht hi8 hk8⟩ (by dsimp only; omega)) rfl
    · clear hc
      refine Gs.lp (β := Nat × List Int) (fun b => I b.1) (fun _ => h1) (fun b => [.sl tv 3 1 (fl eInt t), .sl bv 3 1 (fl eInt b.2), .blk w1 (ws.map (Value.int .u8)) 50]) (fun b => b.1 ≤ 8 ∧ Back t b.2 b.1) (fun b => 8 - b.1) (0, List.replicate 8 (0 : Int)) rfl ⟨Nat.zero_le _, rfl, fun j hj => by omega⟩ (fun _ h => h) ?_
      rintro ⟨i, back⟩ ⟨hi, hb⟩ cont hc
      dsimp only at *
      have hbl := hb.1
      (repeat (first | refine G.add (by omega) ?_ | refine G.sub (by omega) ?_ | refine G.mul (by omega) ?_ | refine G.neg (by omega) ?_ | refine G.quo (by omega) (by omega) ?_ | refine G.rem (by omega) ?_ | refine G.shr (by omega) ?_ | refine G.conv (by omega) ?_ | refine G.step ?_ | refine G.buildA (by rfl) ?_ | (refine Gs.box ?_; intro _) | (refine Gs.alloc ?_; intro _) | refine Gs.store ?_ | refine G.retc ?_ | refine Gs.dr ?_ | refine G.qadd (by omega) ?_ | refine G.qsub (by omega) ?_ | refine G.qmul (by omega) ?_ | refine G.qneg (by omega) ?_ | refine G.qkp ?_ | refine Gs.qkb ?_ | refine G.withT ?_ | refine Gs.withb ?_ | refine G.ift ?_ | refine G.iff ?_ | refine G.gdtt ?_ | refine G.gdff ?_ | refine G.gdtf ?_ | refine G.gdft ?_ | (refine G.jk ?_; intro _)))
      refine G.ifd ?_ ?_ <;> intro hlt
      · have hi8 : i < 8 := by omega
        have hbd := ht.bd i hi8
        have hnx := back_next ht hb hi8
        refine Gs.oindex (v := tv) (l := t) (enc := eInt) (i := i) (by omega) ?_
        intro b1 o1 p1
        refine Gs.oload1 p1 ?_
        rw [at8_get t i (by omega)]
        obtain ⟨k, hk⟩ := Int.eq_ofNat_of_zero_le hbd.1
        rw [hk, Int.toNat_natCast] at hnx
        rw [hk]
        refine Gs.oindexW (v := bv) (l := back) (enc := eInt) (i := k) (by omega) ?_
        intro b3 o3 p3 q3
        refine Gs.ostore (v := bv) (pa := []) (c := 0) (i := k) (a := (i : Int)) (l := back) (enc := eInt) (by omega) p3 q3 rfl (by decide) ?_
        (repeat (first | refine G.add (by omega) ?_ | refine G.sub (by omega) ?_ | refine G.mul (by omega) ?_ | refine G.neg (by omega) ?_ | refine G.quo (by omega) (by omega) ?_ | refine G.rem (by omega) ?_ | refine G.shr (by omega) ?_ | refine G.conv (by omega) ?_ | refine G.step ?_ | refine G.buildA (by rfl) ?_ | (refine Gs.box ?_; intro _) | (refine Gs.alloc ?_; intro _) | refine Gs.store ?_ | refine G.retc ?_ | refine Gs.dr ?_ | refine G.qadd (by omega) ?_ | refine G.qsub (by omega) ?_ | refine G.qmul (by omega) ?_ | refine G.qneg (by omega) ?_ | refine G.qkp ?_ | refine Gs.qkb ?_ | refine G.withT ?_ | refine Gs.withb ?_ | refine G.ift ?_ | refine G.iff ?_ | refine G.gdtt ?_ | refine G.gdff ?_ | refine G.gdtf ?_ | refine G.gdft ?_ | (refine G.jk ?_; intro _)))
        exact Gs.goS (hc (i + 1, back.set k (i : Int)) ⟨by dsimp only; omega, hnx⟩ (by dsimp only; omega)) rfl
      · have hi8 : i = 8 := by omega
        subst hi8
        clear hc
        refine Gs.freezeE (v := tv) (enc := eInt) (by decide) ?_
        intro h2 hle2 rt
        refine Gs.freezeE (v := bv) (enc := eInt) (by decide) ?_
        intro h3 hle3 rb
        have rt := rt.mono hle3
        have hE := (hE.mono hle2).mono hle3
        have rp := (rp.mono hle2).mono hle3
        refine Gs.call0 (Turned_ok P t _ _ h3 rp rt (by omega) (fun s hs hl => by
          have := lead_bd (hsteps s hs) hl
          omega)) ?_
        intro qv h4 hle4 rq
        have rt := rt.mono hle4
        have rb := rb.mono hle4
        have hE := hE.mono hle4
        have rp := rp.mono hle4
        have hqv := valid_turn ht hval
        have hql : (P.map (turn t)).length = P.length := List.length_map ..
        have hqb := turned_back ht hb P hsteps
        have hqc := cnt_turn t P 6
        have hqd := dirs_turn_len ht hval
        have hqr := (dirs_rises (P.map (turn t))).1
        have hqm : ∀ x, x ∈ dirs P → at8 t x.toNat ∈ dirs (P.map (turn t)) := fun x hx => dirs_turn_mem hx
        have hpb := dirs_bd hval
        have hqs := steps_of hqv
        have hpd := dirs_len P
        have hqg : ∀ i (hi : i < P.length) (hi' : i < (P.map (turn t)).length), (P.map (turn t))[i] = turn t P[i] := fun i _ _ => List.getElem_map ..
        have hbk := hb.2
        generalize P.map (turn t) = Q at *
        refine G.jn ?_
        refine Gs.lenE rq (by omega) ?_
        refine Gs.lenE rp (by omega) ?_
        (repeat (first | refine G.add (by omega) ?_ | refine G.sub (by omega) ?_ | refine G.mul (by omega) ?_ | refine G.neg (by omega) ?_ | refine G.quo (by omega) (by omega) ?_ | refine G.rem (by omega) ?_ | refine G.shr (by omega) ?_ | refine G.conv (by omega) ?_ | refine G.step ?_ | refine G.buildA (by rfl) ?_ | (refine Gs.box ?_; intro _) | (refine Gs.alloc ?_; intro _) | refine Gs.store ?_ | refine G.retc ?_ | refine Gs.dr ?_ | refine G.qadd (by omega) ?_ | refine G.qsub (by omega) ?_ | refine G.qmul (by omega) ?_ | refine G.qneg (by omega) ?_ | refine G.qkp ?_ | refine Gs.qkb ?_ | refine G.withT ?_ | refine Gs.withb ?_ | refine G.ift ?_ | refine G.iff ?_ | refine G.gdtt ?_ | refine G.gdff ?_ | refine G.gdtf ?_ | refine G.gdft ?_ | (refine G.jk ?_; intro _)| refine G.gdbn (by first | (simp; done) | omega) ?_ | refine G.gdby (by first | (simp; done) | omega) ?_ | refine G.gdyf (by first | (simp; done) | omega) ?_ | refine G.gdy (by first | (simp; done) | omega) ?_ | refine G.gdn (by first | (simp; done) | omega) ?_ | refine G.gdnf (by first | (simp; done) | omega) ?_ | refine G.ify (by first | (simp; done) | omega) ?_ | refine G.ifn (by first | (simp; done) | omega) ?_))
        refine Gs.call0 (Turned_ok Q back _ _ h4 rq rb (by omega) (fun s hs hl => by
          have := lead_bd (hqs s hs) hl
          omega)) ?_
        intro zv h5 hle5 rz
        have rt := rt.mono hle5
        have hE := hE.mono hle5
        have rp := rp.mono hle5
        have rq := rq.mono hle5
        rw [hqb] at rz
        refine same_call P P rz rp (by omega) (by omega) ?_
        (repeat (first | refine G.add (by omega) ?_ | refine G.sub (by omega) ?_ | refine G.mul (by omega) ?_ | refine G.neg (by omega) ?_ | refine G.quo (by omega) (by omega) ?_ | refine G.rem (by omega) ?_ | refine G.shr (by omega) ?_ | refine G.conv (by omega) ?_ | refine G.step ?_ | refine G.buildA (by rfl) ?_ | (refine Gs.box ?_; intro _) | (refine Gs.alloc ?_; intro _) | refine Gs.store ?_ | refine G.retc ?_ | refine Gs.dr ?_ | refine G.qadd (by omega) ?_ | refine G.qsub (by omega) ?_ | refine G.qmul (by omega) ?_ | refine G.qneg (by omega) ?_ | refine G.qkp ?_ | refine Gs.qkb ?_ | refine G.withT ?_ | refine Gs.withb ?_ | refine G.ift ?_ | refine G.iff ?_ | refine G.gdtt ?_ | refine G.gdff ?_ | refine G.gdtf ?_ | refine G.gdft ?_ | (refine G.jk ?_; intro _)| refine G.gdbn (by first | (simp; done) | omega) ?_ | refine G.gdby (by first | (simp; done) | omega) ?_ | refine G.gdyf (by first | (simp; done) | omega) ?_ | refine G.gdy (by first | (simp; done) | omega) ?_ | refine G.gdn (by first | (simp; done) | omega) ?_ | refine G.gdnf (by first | (simp; done) | omega) ?_ | refine G.ify (by first | (simp; done) | omega) ?_ | refine G.ifn (by first | (simp; done) | omega) ?_))
        refine takes_call Q rq (by omega) ?_
        refine takes_call P rp (by omega) ?_
        rw [hqc]
        (repeat (first | refine G.add (by omega) ?_ | refine G.sub (by omega) ?_ | refine G.mul (by omega) ?_ | refine G.neg (by omega) ?_ | refine G.quo (by omega) (by omega) ?_ | refine G.rem (by omega) ?_ | refine G.shr (by omega) ?_ | refine G.conv (by omega) ?_ | refine G.step ?_ | refine G.buildA (by rfl) ?_ | (refine Gs.box ?_; intro _) | (refine Gs.alloc ?_; intro _) | refine Gs.store ?_ | refine G.retc ?_ | refine Gs.dr ?_ | refine G.qadd (by omega) ?_ | refine G.qsub (by omega) ?_ | refine G.qmul (by omega) ?_ | refine G.qneg (by omega) ?_ | refine G.qkp ?_ | refine Gs.qkb ?_ | refine G.withT ?_ | refine Gs.withb ?_ | refine G.ift ?_ | refine G.iff ?_ | refine G.gdtt ?_ | refine G.gdff ?_ | refine G.gdtf ?_ | refine G.gdft ?_ | (refine G.jk ?_; intro _)| refine G.gdbn (by first | (simp; done) | omega) ?_ | refine G.gdby (by first | (simp; done) | omega) ?_ | refine G.gdyf (by first | (simp; done) | omega) ?_ | refine G.gdy (by first | (simp; done) | omega) ?_ | refine G.gdn (by first | (simp; done) | omega) ?_ | refine G.gdnf (by first | (simp; done) | omega) ?_ | refine G.ify (by first | (simp; done) | omega) ?_ | refine G.ifn (by first | (simp; done) | omega) ?_))
        refine valid_call Q 8 6 4 rq (by omega) hqv ?_
        (repeat (first | refine G.add (by omega) ?_ | refine G.sub (by omega) ?_ | refine G.mul (by omega) ?_ | refine G.neg (by omega) ?_ | refine G.quo (by omega) (by omega) ?_ | refine G.rem (by omega) ?_ | refine G.shr (by omega) ?_ | refine G.conv (by omega) ?_ | refine G.step ?_ | refine G.buildA (by rfl) ?_ | (refine Gs.box ?_; intro _) | (refine Gs.alloc ?_; intro _) | refine Gs.store ?_ | refine G.retc ?_ | refine Gs.dr ?_ | refine G.qadd (by omega) ?_ | refine G.qsub (by omega) ?_ | refine G.qmul (by omega) ?_ | refine G.qneg (by omega) ?_ | refine G.qkp ?_ | refine Gs.qkb ?_ | refine G.withT ?_ | refine Gs.withb ?_ | refine G.ift ?_ | refine G.iff ?_ | refine G.gdtt ?_ | refine G.gdff ?_ | refine G.gdtf ?_ | refine G.gdft ?_ | (refine G.jk ?_; intro _)| refine G.gdbn (by first | (simp; done) | omega) ?_ | refine G.gdby (by first | (simp; done) | omega) ?_ | refine G.gdyf (by first | (simp; done) | omega) ?_ | refine G.gdy (by first | (simp; done) | omega) ?_ | refine G.gdn (by first | (simp; done) | omega) ?_ | refine G.gdnf (by first | (simp; done) | omega) ?_ | refine G.ify (by first | (simp; done) | omega) ?_ | refine G.ifn (by first | (simp; done) | omega) ?_))
        clear rz hqv hqb hqs hb hbk
        refine Gs.lp (β := Nat) (fun i => I i) (fun _ => h5) (fun _ => []) (fun i => i ≤ P.length) (fun i => P.length - i) 0 rfl (Nat.zero_le _) (fun w s => s.sub (by simp)) ?_
        intro i hi cont hc
        (repeat (first | refine G.add (by omega) ?_ | refine G.sub (by omega) ?_ | refine G.mul (by omega) ?_ | refine G.neg (by omega) ?_ | refine G.quo (by omega) (by omega) ?_ | refine G.rem (by omega) ?_ | refine G.shr (by omega) ?_ | refine G.conv (by omega) ?_ | refine G.step ?_ | refine G.buildA (by rfl) ?_ | (refine Gs.box ?_; intro _) | (refine Gs.alloc ?_; intro _) | refine Gs.store ?_ | refine G.retc ?_ | refine Gs.dr ?_ | refine G.qadd (by omega) ?_ | refine G.qsub (by omega) ?_ | refine G.qmul (by omega) ?_ | refine G.qneg (by omega) ?_ | refine G.qkp ?_ | refine Gs.qkb ?_ | refine G.withT ?_ | refine Gs.withb ?_ | refine G.ift ?_ | refine G.iff ?_ | refine G.gdtt ?_ | refine G.gdff ?_ | refine G.gdtf ?_ | refine G.gdft ?_ | (refine G.jk ?_; intro _)))
        refine Gs.lenE rp (by omega) ?_
        (repeat (first | refine G.add (by omega) ?_ | refine G.sub (by omega) ?_ | refine G.mul (by omega) ?_ | refine G.neg (by omega) ?_ | refine G.quo (by omega) (by omega) ?_ | refine G.rem (by omega) ?_ | refine G.shr (by omega) ?_ | refine G.conv (by omega) ?_ | refine G.step ?_ | refine G.buildA (by rfl) ?_ | (refine Gs.box ?_; intro _) | (refine Gs.alloc ?_; intro _) | refine Gs.store ?_ | refine G.retc ?_ | refine Gs.dr ?_ | refine G.qadd (by omega) ?_ | refine G.qsub (by omega) ?_ | refine G.qmul (by omega) ?_ | refine G.qneg (by omega) ?_ | refine G.qkp ?_ | refine Gs.qkb ?_ | refine G.withT ?_ | refine Gs.withb ?_ | refine G.ift ?_ | refine G.iff ?_ | refine G.gdtt ?_ | refine G.gdff ?_ | refine G.gdtf ?_ | refine G.gdft ?_ | (refine G.jk ?_; intro _)))
        refine G.ifd ?_ ?_ <;> intro hlt
        · have hip : i < P.length := by omega
          have hiq : i < Q.length := by omega
          have hg := hqg i hip hiq
          have hsb := hsteps _ (List.getElem_mem hip)
          refine Gs.indexE rp hip ?_
          intro b1 o1 p1
          refine Gs.loadPN p1 rfl ?_
          (repeat (first | refine G.add (by omega) ?_ | refine G.sub (by omega) ?_ | refine G.mul (by omega) ?_ | refine G.neg (by omega) ?_ | refine G.quo (by omega) (by omega) ?_ | refine G.rem (by omega) ?_ | refine G.shr (by omega) ?_ | refine G.conv (by omega) ?_ | refine G.step ?_ | refine G.buildA (by rfl) ?_ | (refine Gs.box ?_; intro _) | (refine Gs.alloc ?_; intro _) | refine Gs.store ?_ | refine G.retc ?_ | refine Gs.dr ?_ | refine G.qadd (by omega) ?_ | refine G.qsub (by omega) ?_ | refine G.qmul (by omega) ?_ | refine G.qneg (by omega) ?_ | refine G.qkp ?_ | refine Gs.qkb ?_ | refine G.withT ?_ | refine Gs.withb ?_ | refine G.ift ?_ | refine G.iff ?_ | refine G.gdtt ?_ | refine G.gdff ?_ | refine G.gdtf ?_ | refine G.gdft ?_ | (refine G.jk ?_; intro _)))
          refine G.jn ?_
          refine Gs.indexE rp hip ?_
          intro b2 o2 p2
          refine Gs.loadPN p2 rfl ?_
          refine Gs.callv0 (rleads_ok P[i] h5) ?_
          cases hld : leadB P[i].1
          · have hgt : Q[i] = P[i] := by rw [hg]; unfold turn; rw [hld]; rfl
            (repeat (first | refine G.add (by omega) ?_ | refine G.sub (by omega) ?_ | refine G.mul (by omega) ?_ | refine G.neg (by omega) ?_ | refine G.quo (by omega) (by omega) ?_ | refine G.rem (by omega) ?_ | refine G.shr (by omega) ?_ | refine G.conv (by omega) ?_ | refine G.step ?_ | refine G.buildA (by rfl) ?_ | (refine Gs.box ?_; intro _) | (refine Gs.alloc ?_; intro _) | refine Gs.store ?_ | refine G.retc ?_ | refine Gs.dr ?_ | refine G.qadd (by omega) ?_ | refine G.qsub (by omega) ?_ | refine G.qmul (by omega) ?_ | refine G.qneg (by omega) ?_ | refine G.qkp ?_ | refine Gs.qkb ?_ | refine G.withT ?_ | refine Gs.withb ?_ | refine G.ift ?_ | refine G.iff ?_ | refine G.gdtt ?_ | refine G.gdff ?_ | refine G.gdtf ?_ | refine G.gdft ?_ | (refine G.jk ?_; intro _)))
            refine Gs.qindexE rq hiq ?_
            intro b3 o3 p3
            refine Gs.qloadPN p3 rfl ?_
            (repeat (first | refine G.add (by omega) ?_ | refine G.sub (by omega) ?_ | refine G.mul (by omega) ?_ | refine G.neg (by omega) ?_ | refine G.quo (by omega) (by omega) ?_ | refine G.rem (by omega) ?_ | refine G.shr (by omega) ?_ | refine G.conv (by omega) ?_ | refine G.step ?_ | refine G.buildA (by rfl) ?_ | (refine Gs.box ?_; intro _) | (refine Gs.alloc ?_; intro _) | refine Gs.store ?_ | refine G.retc ?_ | refine Gs.dr ?_ | refine G.qadd (by omega) ?_ | refine G.qsub (by omega) ?_ | refine G.qmul (by omega) ?_ | refine G.qneg (by omega) ?_ | refine G.qkp ?_ | refine Gs.qkb ?_ | refine G.withT ?_ | refine Gs.withb ?_ | refine G.ift ?_ | refine G.iff ?_ | refine G.gdtt ?_ | refine G.gdff ?_ | refine G.gdtf ?_ | refine G.gdft ?_ | (refine G.jk ?_; intro _)))
            refine G.ifn (by rw [hgt]; simp) ?_
            (repeat (first | refine G.add (by omega) ?_ | refine G.sub (by omega) ?_ | refine G.mul (by omega) ?_ | refine G.neg (by omega) ?_ | refine G.quo (by omega) (by omega) ?_ | refine G.rem (by omega) ?_ | refine G.shr (by omega) ?_ | refine G.conv (by omega) ?_ | refine G.step ?_ | refine G.buildA (by rfl) ?_ | (refine Gs.box ?_; intro _) | (refine Gs.alloc ?_; intro _) | refine Gs.store ?_ | refine G.retc ?_ | refine Gs.dr ?_ | refine G.qadd (by omega) ?_ | refine G.qsub (by omega) ?_ | refine G.qmul (by omega) ?_ | refine G.qneg (by omega) ?_ | refine G.qkp ?_ | refine Gs.qkb ?_ | refine G.withT ?_ | refine Gs.withb ?_ | refine G.ift ?_ | refine G.iff ?_ | refine G.gdtt ?_ | refine G.gdff ?_ | refine G.gdtf ?_ | refine G.gdft ?_ | (refine G.jk ?_; intro _)))
            exact Gs.goS (hc (i + 1) (by omega) (by omega)) rfl
          · obtain ⟨d0, d8⟩ := lead_bd hsb hld
            have hgt : Q[i] = (P[i].1, at8 t P[i].2.toNat) := by rw [hg]; unfold turn; rw [hld]; rfl
            (repeat (first | refine G.add (by omega) ?_ | refine G.sub (by omega) ?_ | refine G.mul (by omega) ?_ | refine G.neg (by omega) ?_ | refine G.quo (by omega) (by omega) ?_ | refine G.rem (by omega) ?_ | refine G.shr (by omega) ?_ | refine G.conv (by omega) ?_ | refine G.step ?_ | refine G.buildA (by rfl) ?_ | (refine Gs.box ?_; intro _) | (refine Gs.alloc ?_; intro _) | refine Gs.store ?_ | refine G.retc ?_ | refine Gs.dr ?_ | refine G.qadd (by omega) ?_ | refine G.qsub (by omega) ?_ | refine G.qmul (by omega) ?_ | refine G.qneg (by omega) ?_ | refine G.qkp ?_ | refine Gs.qkb ?_ | refine G.withT ?_ | refine Gs.withb ?_ | refine G.ift ?_ | refine G.iff ?_ | refine G.gdtt ?_ | refine G.gdff ?_ | refine G.gdtf ?_ | refine G.gdft ?_ | (refine G.jk ?_; intro _)))
            refine Gs.indexE rp hip ?_
            intro b3 o3 p3
            (repeat (first | refine G.add (by omega) ?_ | refine G.sub (by omega) ?_ | refine G.mul (by omega) ?_ | refine G.neg (by omega) ?_ | refine G.quo (by omega) (by omega) ?_ | refine G.rem (by omega) ?_ | refine G.shr (by omega) ?_ | refine G.conv (by omega) ?_ | refine G.step ?_ | refine G.buildA (by rfl) ?_ | (refine Gs.box ?_; intro _) | (refine Gs.alloc ?_; intro _) | refine Gs.store ?_ | refine G.retc ?_ | refine Gs.dr ?_ | refine G.qadd (by omega) ?_ | refine G.qsub (by omega) ?_ | refine G.qmul (by omega) ?_ | refine G.qneg (by omega) ?_ | refine G.qkp ?_ | refine Gs.qkb ?_ | refine G.withT ?_ | refine Gs.withb ?_ | refine G.ift ?_ | refine G.iff ?_ | refine G.gdtt ?_ | refine G.gdff ?_ | refine G.gdtf ?_ | refine G.gdft ?_ | (refine G.jk ?_; intro _)))
            refine Gs.loadP1 (p3.field (c := 1)) ?_
            obtain ⟨n, hn⟩ := Int.eq_ofNat_of_zero_le d0
            rw [hn, Int.toNat_natCast] at hgt
            rw [hn]
            have hnt : n < t.length := by omega
            refine Gs.indexE rt hnt ?_
            intro b4 o4 p4
            refine Gs.loadP1 p4 ?_
            rw [at8_get t n hnt]
            (repeat (first | refine G.add (by omega) ?_ | refine G.sub (by omega) ?_ | refine G.mul (by omega) ?_ | refine G.neg (by omega) ?_ | refine G.quo (by omega) (by omega) ?_ | refine G.rem (by omega) ?_ | refine G.shr (by omega) ?_ | refine G.conv (by omega) ?_ | refine G.step ?_ | refine G.buildA (by rfl) ?_ | (refine Gs.box ?_; intro _) | (refine Gs.alloc ?_; intro _) | refine Gs.store ?_ | refine G.retc ?_ | refine Gs.dr ?_ | refine G.qadd (by omega) ?_ | refine G.qsub (by omega) ?_ | refine G.qmul (by omega) ?_ | refine G.qneg (by omega) ?_ | refine G.qkp ?_ | refine Gs.qkb ?_ | refine G.withT ?_ | refine Gs.withb ?_ | refine G.ift ?_ | refine G.iff ?_ | refine G.gdtt ?_ | refine G.gdff ?_ | refine G.gdtf ?_ | refine G.gdft ?_ | (refine G.jk ?_; intro _)))
            refine Gs.qindexE rq hiq ?_
            intro b5 o5 p5
            refine Gs.qloadPN p5 rfl ?_
            (repeat (first | refine G.add (by omega) ?_ | refine G.sub (by omega) ?_ | refine G.mul (by omega) ?_ | refine G.neg (by omega) ?_ | refine G.quo (by omega) (by omega) ?_ | refine G.rem (by omega) ?_ | refine G.shr (by omega) ?_ | refine G.conv (by omega) ?_ | refine G.step ?_ | refine G.buildA (by rfl) ?_ | (refine Gs.box ?_; intro _) | (refine Gs.alloc ?_; intro _) | refine Gs.store ?_ | refine G.retc ?_ | refine Gs.dr ?_ | refine G.qadd (by omega) ?_ | refine G.qsub (by omega) ?_ | refine G.qmul (by omega) ?_ | refine G.qneg (by omega) ?_ | refine G.qkp ?_ | refine Gs.qkb ?_ | refine G.withT ?_ | refine Gs.withb ?_ | refine G.ift ?_ | refine G.iff ?_ | refine G.gdtt ?_ | refine G.gdff ?_ | refine G.gdtf ?_ | refine G.gdft ?_ | (refine G.jk ?_; intro _)))
            refine G.ifn (by rw [hgt]; simp) ?_
            (repeat (first | refine G.add (by omega) ?_ | refine G.sub (by omega) ?_ | refine G.mul (by omega) ?_ | refine G.neg (by omega) ?_ | refine G.quo (by omega) (by omega) ?_ | refine G.rem (by omega) ?_ | refine G.shr (by omega) ?_ | refine G.conv (by omega) ?_ | refine G.step ?_ | refine G.buildA (by rfl) ?_ | (refine Gs.box ?_; intro _) | (refine Gs.alloc ?_; intro _) | refine Gs.store ?_ | refine G.retc ?_ | refine Gs.dr ?_ | refine G.qadd (by omega) ?_ | refine G.qsub (by omega) ?_ | refine G.qmul (by omega) ?_ | refine G.qneg (by omega) ?_ | refine G.qkp ?_ | refine Gs.qkb ?_ | refine G.withT ?_ | refine Gs.withb ?_ | refine G.ift ?_ | refine G.iff ?_ | refine G.gdtt ?_ | refine G.gdff ?_ | refine G.gdtf ?_ | refine G.gdft ?_ | (refine G.jk ?_; intro _)))
            exact Gs.goS (hc (i + 1) (by omega) (by omega)) rfl
        · clear hc
          refine dirs_call P _ rp (by omega) rfl ?_
          intro h6 d1 hle6 rd1
          refine dirs_call Q _ (rq.mono hle6) (by omega) rfl ?_
          intro h7 d2 hle7 rd2
          have rd1 := rd1.mono hle7
          have rt := (rt.mono hle6).mono hle7
          have hD : (dirs P).length ≤ 8 := by omega
          generalize dirs P = D at *
          generalize dirs Q = E at *
          refine Gs.lenE rd1 (by omega) ?_
          refine Gs.lenE rd2 (by omega) ?_
          (repeat (first | refine G.add (by omega) ?_ | refine G.sub (by omega) ?_ | refine G.mul (by omega) ?_ | refine G.neg (by omega) ?_ | refine G.quo (by omega) (by omega) ?_ | refine G.rem (by omega) ?_ | refine G.shr (by omega) ?_ | refine G.conv (by omega) ?_ | refine G.step ?_ | refine G.buildA (by rfl) ?_ | (refine Gs.box ?_; intro _) | (refine Gs.alloc ?_; intro _) | refine Gs.store ?_ | refine G.retc ?_ | refine Gs.dr ?_ | refine G.qadd (by omega) ?_ | refine G.qsub (by omega) ?_ | refine G.qmul (by omega) ?_ | refine G.qneg (by omega) ?_ | refine G.qkp ?_ | refine Gs.qkb ?_ | refine G.withT ?_ | refine Gs.withb ?_ | refine G.ift ?_ | refine G.iff ?_ | refine G.gdtt ?_ | refine G.gdff ?_ | refine G.gdtf ?_ | refine G.gdft ?_ | (refine G.jk ?_; intro _)))
          refine G.ifn (by rw [hqd]; simp) ?_
          refine Gs.lp (β := Nat) (fun i => I i) (fun _ => h7) (fun _ => []) (fun i => i ≤ D.length) (fun i => D.length - i) 0 rfl (Nat.zero_le _) (fun _ h => h) ?_
          intro i hi cont hc
          (repeat (first | refine G.add (by omega) ?_ | refine G.sub (by omega) ?_ | refine G.mul (by omega) ?_ | refine G.neg (by omega) ?_ | refine G.quo (by omega) (by omega) ?_ | refine G.rem (by omega) ?_ | refine G.shr (by omega) ?_ | refine G.conv (by omega) ?_ | refine G.step ?_ | refine G.buildA (by rfl) ?_ | (refine Gs.box ?_; intro _) | (refine Gs.alloc ?_; intro _) | refine Gs.store ?_ | refine G.retc ?_ | refine Gs.dr ?_ | refine G.qadd (by omega) ?_ | refine G.qsub (by omega) ?_ | refine G.qmul (by omega) ?_ | refine G.qneg (by omega) ?_ | refine G.qkp ?_ | refine Gs.qkb ?_ | refine G.withT ?_ | refine Gs.withb ?_ | refine G.ift ?_ | refine G.iff ?_ | refine G.gdtt ?_ | refine G.gdff ?_ | refine G.gdtf ?_ | refine G.gdft ?_ | (refine G.jk ?_; intro _)))
          refine Gs.lenE rd1 (by omega) ?_
          (repeat (first | refine G.add (by omega) ?_ | refine G.sub (by omega) ?_ | refine G.mul (by omega) ?_ | refine G.neg (by omega) ?_ | refine G.quo (by omega) (by omega) ?_ | refine G.rem (by omega) ?_ | refine G.shr (by omega) ?_ | refine G.conv (by omega) ?_ | refine G.step ?_ | refine G.buildA (by rfl) ?_ | (refine Gs.box ?_; intro _) | (refine Gs.alloc ?_; intro _) | refine Gs.store ?_ | refine G.retc ?_ | refine Gs.dr ?_ | refine G.qadd (by omega) ?_ | refine G.qsub (by omega) ?_ | refine G.qmul (by omega) ?_ | refine G.qneg (by omega) ?_ | refine G.qkp ?_ | refine Gs.qkb ?_ | refine G.withT ?_ | refine Gs.withb ?_ | refine G.ift ?_ | refine G.iff ?_ | refine G.gdtt ?_ | refine G.gdff ?_ | refine G.gdtf ?_ | refine G.gdft ?_ | (refine G.jk ?_; intro _)))
          refine G.ifd ?_ ?_ <;> intro hlt
          · have hiD : i < D.length := by omega
            have hiE : i < E.length := by omega
            have hx := hqm _ (List.getElem_mem hiD)
            have hxb := hpb _ (List.getElem_mem hiD)
            have inner : ∀ (cont0 : Value → WP), Gs w0 h h7 [] (cont0 (I (i + 1))) → True := fun _ _ => trivial
            refine G.jnP (fun v => v = .bool false) ?_ ?_
            · rintro _ rfl
              (repeat (first | refine G.add (by omega) ?_ | refine G.sub (by omega) ?_ | refine G.mul (by omega) ?_ | refine G.neg (by omega) ?_ | refine G.quo (by omega) (by omega) ?_ | refine G.rem (by omega) ?_ | refine G.shr (by omega) ?_ | refine G.conv (by omega) ?_ | refine G.step ?_ | refine G.buildA (by rfl) ?_ | (refine Gs.box ?_; intro _) | (refine Gs.alloc ?_; intro _) | refine Gs.store ?_ | refine G.retc ?_ | refine Gs.dr ?_ | refine G.qadd (by omega) ?_ | refine G.qsub (by omega) ?_ | refine G.qmul (by omega) ?_ | refine G.qneg (by omega) ?_ | refine G.qkp ?_ | refine Gs.qkb ?_ | refine G.withT ?_ | refine Gs.withb ?_ | refine G.ift ?_ | refine G.iff ?_ | refine G.gdtt ?_ | refine G.gdff ?_ | refine G.gdtf ?_ | refine G.gdft ?_ | (refine G.jk ?_; intro _)))
              obtain ⟨n, hn⟩ := Int.eq_ofNat_of_zero_le hxb.1
              rw [hn, Int.toNat_natCast] at hx
              have hnt : n < t.length := by omega
              refine Gs.lp (β := Nat) (fun k => (.bool (decide (at8 t n ∈ E.take k)), I k)) (fun _ => h7) (fun _ => []) (fun k => k ≤ E.length) (fun k => E.length - k) 0 rfl (Nat.zero_le _) (fun _ h => h) ?_
              intro k hk cont2 hc2
              (repeat (first | refine G.add (by omega) ?_ | refine G.sub (by omega) ?_ | refine G.mul (by omega) ?_ | refine G.neg (by omega) ?_ | refine G.quo (by omega) (by omega) ?_ | refine G.rem (by omega) ?_ | refine G.shr (by omega) ?_ | refine G.conv (by omega) ?_ | refine G.step ?_ | refine G.buildA (by rfl) ?_ | (refine Gs.box ?_; intro _) | (refine Gs.alloc ?_; intro _) | refine Gs.store ?_ | refine G.retc ?_ | refine Gs.dr ?_ | refine G.qadd (by omega) ?_ | refine G.qsub (by omega) ?_ | refine G.qmul (by omega) ?_ | refine G.qneg (by omega) ?_ | refine G.qkp ?_ | refine Gs.qkb ?_ | refine G.withT ?_ | refine Gs.withb ?_ | refine G.ift ?_ | refine G.iff ?_ | refine G.gdtt ?_ | refine G.gdff ?_ | refine G.gdtf ?_ | refine G.gdft ?_ | (refine G.jk ?_; intro _)))
              refine Gs.lenE rd2 (by omega) ?_
              (repeat (first | refine G.add (by omega) ?_ | refine G.sub (by omega) ?_ | refine G.mul (by omega) ?_ | refine G.neg (by omega) ?_ | refine G.quo (by omega) (by omega) ?_ | refine G.rem (by omega) ?_ | refine G.shr (by omega) ?_ | refine G.conv (by omega) ?_ | refine G.step ?_ | refine G.buildA (by rfl) ?_ | (refine Gs.box ?_; intro _) | (refine Gs.alloc ?_; intro _) | refine Gs.store ?_ | refine G.retc ?_ | refine Gs.dr ?_ | refine G.qadd (by omega) ?_ | refine G.qsub (by omega) ?_ | refine G.qmul (by omega) ?_ | refine G.qneg (by omega) ?_ | refine G.qkp ?_ | refine Gs.qkb ?_ | refine G.withT ?_ | refine Gs.withb ?_ | refine G.ift ?_ | refine G.iff ?_ | refine G.gdtt ?_ | refine G.gdff ?_ | refine G.gdtf ?_ | refine G.gdft ?_ | (refine G.jk ?_; intro _)))
              refine G.ifd ?_ ?_ <;> intro hltk
              · have hkE : k < E.length := by omega
                have hmem : (at8 t n ∈ E.take (k + 1)) ↔ (at8 t n ∈ E.take k ∨ E[k] = at8 t n) := by
                  rw [List.take_succ_eq_append_getElem hkE, List.mem_append, List.mem_singleton]
                  exact ⟨fun h => h.imp id Eq.symm, fun h => h.imp id Eq.symm⟩
                have hc2 := hc2 (k + 1) (by omega) (by omega)
                refine G.jn ?_
                refine Gs.dr ?_
                by_cases hin : at8 t n ∈ E.take k
                · rw [decide_eq_true hin]
                  rw [decide_eq_true (hmem.2 (.inl hin))] at hc2
                  (repeat (first | refine G.add (by omega) ?_ | refine G.sub (by omega) ?_ | refine G.mul (by omega) ?_ | refine G.neg (by omega) ?_ | refine G.quo (by omega) (by omega) ?_ | refine G.rem (by omega) ?_ | refine G.shr (by omega) ?_ | refine G.conv (by omega) ?_ | refine G.step ?_ | refine G.buildA (by rfl) ?_ | (refine Gs.box ?_; intro _) | (refine Gs.alloc ?_; intro _) | refine Gs.store ?_ | refine G.retc ?_ | refine Gs.dr ?_ | refine G.qadd (by omega) ?_ | refine G.qsub (by omega) ?_ | refine G.qmul (by omega) ?_ | refine G.qneg (by omega) ?_ | refine G.qkp ?_ | refine Gs.qkb ?_ | refine G.withT ?_ | refine Gs.withb ?_ | refine G.ift ?_ | refine G.iff ?_ | refine G.gdtt ?_ | refine G.gdff ?_ | refine G.gdtf ?_ | refine G.gdft ?_ | (refine G.jk ?_; intro _)))
                  exact Gs.goS hc2 rfl
                · rw [decide_eq_false hin]
                  (repeat (first | refine G.add (by omega) ?_ | refine G.sub (by omega) ?_ | refine G.mul (by omega) ?_ | refine G.neg (by omega) ?_ | refine G.quo (by omega) (by omega) ?_ | refine G.rem (by omega) ?_ | refine G.shr (by omega) ?_ | refine G.conv (by omega) ?_ | refine G.step ?_ | refine G.buildA (by rfl) ?_ | (refine Gs.box ?_; intro _) | (refine Gs.alloc ?_; intro _) | refine Gs.store ?_ | refine G.retc ?_ | refine Gs.dr ?_ | refine G.qadd (by omega) ?_ | refine G.qsub (by omega) ?_ | refine G.qmul (by omega) ?_ | refine G.qneg (by omega) ?_ | refine G.qkp ?_ | refine Gs.qkb ?_ | refine G.withT ?_ | refine Gs.withb ?_ | refine G.ift ?_ | refine G.iff ?_ | refine G.gdtt ?_ | refine G.gdff ?_ | refine G.gdtf ?_ | refine G.gdft ?_ | (refine G.jk ?_; intro _)))
                  refine Gs.qindexE rd1 hiD ?_
                  intro b1 o1 p1
                  refine Gs.qloadP1 p1 ?_
                  rw [hn]
                  (repeat (first | refine G.add (by omega) ?_ | refine G.sub (by omega) ?_ | refine G.mul (by omega) ?_ | refine G.neg (by omega) ?_ | refine G.quo (by omega) (by omega) ?_ | refine G.rem (by omega) ?_ | refine G.shr (by omega) ?_ | refine G.conv (by omega) ?_ | refine G.step ?_ | refine G.buildA (by rfl) ?_ | (refine Gs.box ?_; intro _) | (refine Gs.alloc ?_; intro _) | refine Gs.store ?_ | refine G.retc ?_ | refine Gs.dr ?_ | refine G.qadd (by omega) ?_ | refine G.qsub (by omega) ?_ | refine G.qmul (by omega) ?_ | refine G.qneg (by omega) ?_ | refine G.qkp ?_ | refine Gs.qkb ?_ | refine G.withT ?_ | refine Gs.withb ?_ | refine G.ift ?_ | refine G.iff ?_ | refine G.gdtt ?_ | refine G.gdff ?_ | refine G.gdtf ?_ | refine G.gdft ?_ | (refine G.jk ?_; intro _)| refine G.gdbn (by first | (simp; done) | omega) ?_ | refine G.gdby (by first | (simp; done) | omega) ?_ | refine G.gdyf (by first | (simp; done) | omega) ?_ | refine G.gdy (by first | (simp; done) | omega) ?_ | refine G.gdn (by first | (simp; done) | omega) ?_ | refine G.gdnf (by first | (simp; done) | omega) ?_ | refine G.ify (by first | (simp; done) | omega) ?_ | refine G.ifn (by first | (simp; done) | omega) ?_))
                  refine Gs.qindexE rd1 hiD ?_
                  intro b2 o2 p2
                  refine Gs.qloadP1 p2 ?_
                  rw [hn]
                  (repeat (first | refine G.add (by omega) ?_ | refine G.sub (by omega) ?_ | refine G.mul (by omega) ?_ | refine G.neg (by omega) ?_ | refine G.quo (by omega) (by omega) ?_ | refine G.rem (by omega) ?_ | refine G.shr (by omega) ?_ | refine G.conv (by omega) ?_ | refine G.step ?_ | refine G.buildA (by rfl) ?_ | (refine Gs.box ?_; intro _) | (refine Gs.alloc ?_; intro _) | refine Gs.store ?_ | refine G.retc ?_ | refine Gs.dr ?_ | refine G.qadd (by omega) ?_ | refine G.qsub (by omega) ?_ | refine G.qmul (by omega) ?_ | refine G.qneg (by omega) ?_ | refine G.qkp ?_ | refine Gs.qkb ?_ | refine G.withT ?_ | refine Gs.withb ?_ | refine G.ift ?_ | refine G.iff ?_ | refine G.gdtt ?_ | refine G.gdff ?_ | refine G.gdtf ?_ | refine G.gdft ?_ | (refine G.jk ?_; intro _)| refine G.gdbn (by first | (simp; done) | omega) ?_ | refine G.gdby (by first | (simp; done) | omega) ?_ | refine G.gdyf (by first | (simp; done) | omega) ?_ | refine G.gdy (by first | (simp; done) | omega) ?_ | refine G.gdn (by first | (simp; done) | omega) ?_ | refine G.gdnf (by first | (simp; done) | omega) ?_ | refine G.ify (by first | (simp; done) | omega) ?_ | refine G.ifn (by first | (simp; done) | omega) ?_))
                  refine Gs.qindexE rd2 hkE ?_
                  intro b3 o3 p3
                  refine Gs.qloadP1 p3 ?_
                  refine Gs.qindexE rd1 hiD ?_
                  intro b4 o4 p4
                  refine Gs.qloadP1 p4 ?_
                  rw [hn]
                  refine Gs.qindexE rt hnt ?_
                  intro b5 o5 p5
                  refine Gs.qloadP1 p5 ?_
                  rw [at8_get t n hnt]
                  (repeat (first | refine G.add (by omega) ?_ | refine G.sub (by omega) ?_ | refine G.mul (by omega) ?_ | refine G.neg (by omega) ?_ | refine G.quo (by omega) (by omega) ?_ | refine G.rem (by omega) ?_ | refine G.shr (by omega) ?_ | refine G.conv (by omega) ?_ | refine G.step ?_ | refine G.buildA (by rfl) ?_ | (refine Gs.box ?_; intro _) | (refine Gs.alloc ?_; intro _) | refine Gs.store ?_ | refine G.retc ?_ | refine Gs.dr ?_ | refine G.qadd (by omega) ?_ | refine G.qsub (by omega) ?_ | refine G.qmul (by omega) ?_ | refine G.qneg (by omega) ?_ | refine G.qkp ?_ | refine Gs.qkb ?_ | refine G.withT ?_ | refine Gs.withb ?_ | refine G.ift ?_ | refine G.iff ?_ | refine G.gdtt ?_ | refine G.gdff ?_ | refine G.gdtf ?_ | refine G.gdft ?_ | (refine G.jk ?_; intro _)))
                  refine Gs.goS hc2 ?_
                  rw [decide_eq_decide.2 (hmem.trans ⟨fun h => h.resolve_left hin, .inr⟩)]
                  rfl
              · rw [List.take_of_length_le (by omega), decide_eq_true hx]
                (repeat (first | refine G.add (by omega) ?_ | refine G.sub (by omega) ?_ | refine G.mul (by omega) ?_ | refine G.neg (by omega) ?_ | refine G.quo (by omega) (by omega) ?_ | refine G.rem (by omega) ?_ | refine G.shr (by omega) ?_ | refine G.conv (by omega) ?_ | refine G.step ?_ | refine G.buildA (by rfl) ?_ | (refine Gs.box ?_; intro _) | (refine Gs.alloc ?_; intro _) | refine Gs.store ?_ | refine G.retc ?_ | refine Gs.dr ?_ | refine G.qadd (by omega) ?_ | refine G.qsub (by omega) ?_ | refine G.qmul (by omega) ?_ | refine G.qneg (by omega) ?_ | refine G.qkp ?_ | refine Gs.qkb ?_ | refine G.withT ?_ | refine Gs.withb ?_ | refine G.ift ?_ | refine G.iff ?_ | refine G.gdtt ?_ | refine G.gdff ?_ | refine G.gdtf ?_ | refine G.gdft ?_ | (refine G.jk ?_; intro _)))
                exact Gs.goS (hc (i + 1) (by omega) (by omega)) rfl
            · intro k59 hk59
              refine Gs.dr ?_
              (repeat (first | refine G.add (by omega) ?_ | refine G.sub (by omega) ?_ | refine G.mul (by omega) ?_ | refine G.neg (by omega) ?_ | refine G.quo (by omega) (by omega) ?_ | refine G.rem (by omega) ?_ | refine G.shr (by omega) ?_ | refine G.conv (by omega) ?_ | refine G.step ?_ | refine G.buildA (by rfl) ?_ | (refine Gs.box ?_; intro _) | (refine Gs.alloc ?_; intro _) | refine Gs.store ?_ | refine G.retc ?_ | refine Gs.dr ?_ | refine G.qadd (by omega) ?_ | refine G.qsub (by omega) ?_ | refine G.qmul (by omega) ?_ | refine G.qneg (by omega) ?_ | refine G.qkp ?_ | refine Gs.qkb ?_ | refine G.withT ?_ | refine Gs.withb ?_ | refine G.ift ?_ | refine G.iff ?_ | refine G.gdtt ?_ | refine G.gdff ?_ | refine G.gdtf ?_ | refine G.gdft ?_ | (refine G.jk ?_; intro _)))
              by_cases hi0 : i = 0
              · subst hi0
                refine G.gdn (by simp) ?_
                exact hk59 _ rfl
              · refine G.gdy (by omega) ?_
                refine G.qsub (by omega) ?_
                obtain ⟨j, rfl⟩ : ∃ j, i = j + 1 := ⟨i - 1, by omega⟩
                rw [show ((j + 1 : Nat) : Int) - 1 = (j : Int) by omega]
                refine Gs.qindexE rd2 (i := j) (by omega) ?_
                intro b1 o1 p1
                refine Gs.qloadP1 p1 ?_
                refine Gs.qindexE rd2 hiE ?_
                intro b2 o2 p2
                refine Gs.qloadP1 p2 ?_
                have hr := (List.pairwise_iff_getElem.1 hqr) j (j + 1) (by omega) hiE (by omega)
                (repeat (first | refine G.add (by omega) ?_ | refine G.sub (by omega) ?_ | refine G.mul (by omega) ?_ | refine G.neg (by omega) ?_ | refine G.quo (by omega) (by omega) ?_ | refine G.rem (by omega) ?_ | refine G.shr (by omega) ?_ | refine G.conv (by omega) ?_ | refine G.step ?_ | refine G.buildA (by rfl) ?_ | (refine Gs.box ?_; intro _) | (refine Gs.alloc ?_; intro _) | refine Gs.store ?_ | refine G.retc ?_ | refine Gs.dr ?_ | refine G.qadd (by omega) ?_ | refine G.qsub (by omega) ?_ | refine G.qmul (by omega) ?_ | refine G.qneg (by omega) ?_ | refine G.qkp ?_ | refine Gs.qkb ?_ | refine G.withT ?_ | refine Gs.withb ?_ | refine G.ift ?_ | refine G.iff ?_ | refine G.gdtt ?_ | refine G.gdff ?_ | refine G.gdtf ?_ | refine G.gdft ?_ | (refine G.jk ?_; intro _)))
                rw [decide_eq_false (by omega)]
                exact hk59 _ rfl
          · exact Gs.ret rfl
  · intro k3 hk3
    have fin : ∀ (h1 : Hp) (p bv : Value) (b1 : Nat), Hle h h1 → Tight h1 p (lib l) → Gs w0 h h1 [Itm.sl (.slice (some ⟨b1, 0, none⟩) 8 8) 3 1 [.int .i64 0, .int .i64 1, .int .i64 2, .int .i64 3, .int .i64 4, .int .i64 5, .int .i64 6, .int .i64 7], Itm.sl bv 3 1 (fl eInt (List.replicate (Int.toNat 8) (0 : Int))), .blk w1 (ws.map (Value.int .u8)) 50] (k3 (p, .slice (some ⟨b1, 0, none⟩) 8 8, bv)) :=
      fun h1 p bv b1 hle tp => hk3 (p, .slice (some ⟨b1, 0, none⟩) 8 8, bv) _ ⟨h1, hle, tp, rfl⟩
    refine Gs.dr ?_
    refine G.or2 ?_ ?_
    · refine lib_call hl ?_
      intro h1 p hle1 tp
      refine G.or2 ?_ ?_
      · refine Gs.buildSlice (by decide) ?_
        intro b1
        refine Gs.make (enc := eInt) (a0 := 0) rfl (by decide) (by decide) (by decide) ?_
        intro bv
        exact Gs.goS (fin h1 p bv b1 hle1 tp) rfl
      · refine Gs.make (enc := eInt) (a0 := 0) rfl (by decide) (by decide) (by decide) ?_
        intro bv
        refine Gs.buildSlice (by decide) ?_
        intro b1
        exact Gs.goS (fin h1 p bv b1 hle1 tp) rfl
    · refine G.or2 ?_ ?_
      · refine Gs.buildSlice (by decide) ?_
        intro b1
        refine G.or2 ?_ ?_
        · refine lib_call hl ?_
          intro h1 p hle1 tp
          refine Gs.make (enc := eInt) (a0 := 0) rfl (by decide) (by decide) (by decide) ?_
          intro bv
          exact Gs.goS (fin h1 p bv b1 hle1 tp) rfl
        · refine Gs.make (enc := eInt) (a0 := 0) rfl (by decide) (by decide) (by decide) ?_
          intro bv
          refine lib_call hl ?_
          intro h1 p hle1 tp
          exact Gs.goS (fin h1 p bv b1 hle1 tp) rfl
      · refine Gs.make (enc := eInt) (a0 := 0) rfl (by decide) (by decide) (by decide) ?_
        intro bv
        refine G.or2 ?_ ?_
        · refine lib_call hl ?_
          intro h1 p hle1 tp
          refine Gs.buildSlice (by decide) ?_
          intro b1
          exact Gs.goS (fin h1 p bv b1 hle1 tp) rfl
        · refine Gs.buildSlice (by decide) ?_
          intro b1
          refine lib_call hl ?_
          intro h1 p hle1 tp
          exact Gs.goS (fin h1 p bv b1 hle1 tp) rfl
end Go.Proofs.YtlljhipmnkdpeaaGreatDoor
end

