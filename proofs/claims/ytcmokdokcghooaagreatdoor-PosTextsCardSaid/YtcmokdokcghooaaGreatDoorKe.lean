/-
  Lemmas for the proof of the statement of this claim: a part of the road, no statement of its own. Conditions: those that each lemma names.
-/
import Derived.Test.YtcmokdokcghooaaGreatDoorKd
import Derived.Test.YtcmokdokcghooaaGreatDoorSh
import Derived.Test.YtcmokdokcghooaaGreatDoorKg
section
set_option linter.unusedVariables false
set_option maxHeartbeats 8000000
namespace Go.Proofs.YtcmokdokcghooaaGreatDoor
open Go Go.Sk Go.Pr Go.Ps Go.RowKit
variable {w0 : World} {h0 h : Hp} {L : List Itm} {K : Value → WP}
abbrev encZ : PosH × Pt → List Value := fun z => ePos z.1
instance : Enc encZ 5 := ⟨fun z => Enc.len (enc := ePos) z.1, fun z v h => Enc.flat (enc := ePos) z.1 v h⟩
instance ldZ : LdE Tryz.prog 44 encZ (fun z => vPos z.1) := ⟨fun h b o z hp => ldPos.ok h b o z.1 hp, fun v e' sz xs b o z hp => ldPos.own v e' sz xs b o z.1 hp⟩
theorem fl_encZ : ∀ zs : List (PosH × Pt), fl encZ zs = fl ePos (zs.map Prod.fst)
  | [] => rfl
  | z :: zs => by rw [fl_cons, List.map_cons, fl_cons, fl_encZ zs]
theorem cl_map {α β : Type} (g : α → β) (e : β → β → Bool) : ∀ (l : List α) (p : α), (cl (fun x y => e (g x) (g y)) p l).map g = cl e (g p) (l.map g)
  | [], p => rfl
  | y :: r, p => by
    simp only [cl, List.map_cons]
    split <;> simp [cl_map g e r y]
theorem compactL_map {α β : Type} (g : α → β) (e : β → β → Bool) : ∀ (l : List α), (compactL (fun x y => e (g x) (g y)) l).map g = compactL e (l.map g)
  | [] => rfl
  | x :: r => by simp only [compactL, List.map_cons]; rw [cl_map]
theorem cl_sub {α : Type} (e : α → α → Bool) : ∀ (l : List α) (p z : α), z ∈ cl e p l → z ∈ l
  | [], p, z, h => by simp [cl] at h
  | y :: r, p, z, h => by
    simp only [cl] at h
    split at h
    · exact List.mem_cons_of_mem _ (cl_sub e r y z h)
    · rcases List.mem_cons.1 h with rfl | h
      · simp
      · exact List.mem_cons_of_mem _ (cl_sub e r y z h)
theorem compactL_sub {α : Type} (e : α → α → Bool) : ∀ (l : List α) (z : α), z ∈ compactL e l → z ∈ l
  | [], z, h => h
  | x :: r, z, h => by
    rcases List.mem_cons.1 h with rfl | h
    · simp
    · exact List.mem_cons_of_mem _ (cl_sub e r x z h)
theorem All2.zipped {α β : Type} {R : α → β → Prop} : ∀ {l : List α} {m : List β}, All2 R l m → ∃ zs : List (α × β), zs.map Prod.fst = l ∧ zs.map Prod.snd = m ∧ ∀ z ∈ zs, R z.1 z.2
  | _, _, .nil => ⟨[], rfl, rfl, fun z hz => by simp at hz⟩
  | _, _, .cons (a := a) (b := b) h1 h2 => by
    obtain ⟨zs, e1, e2, e3⟩ := All2.zipped h2
    exact ⟨(a, b) :: zs, by simp [e1], by simp [e2], fun z hz => by
      rcases List.mem_cons.1 hz with rfl | hz
      · exact h1
      · exact e3 z hz⟩
theorem All2.unzip {α β : Type} {R : α → β → Prop} : ∀ {zs : List (α × β)}, (∀ z ∈ zs, R z.1 z.2) → All2 R (zs.map Prod.fst) (zs.map Prod.snd)
  | [], _ => .nil
  | z :: zs, h => .cons (h z (by simp)) (All2.unzip fun y hy => h y (List.mem_cons_of_mem _ hy))
abbrev posL (h : Hp) (v : Value) (ps : List Pt) : Prop := RdF h v ePos 5 posR ps
theorem sort_ok (ps : List Pt) (v : Value) (h : Hp) (hv : posL h v ps) (hn : ps.length ≤ 1000) : Ct Tryz.prog 23 [v] h (fun h' r => posL h' r (sortU cmpP ps)) := by
  refine ct23 ?_
  intro w0
  unfold s23
  obtain ⟨hs, r1, r2⟩ := hv
  have hlen := r2.len
  refine in52 ?_
  rw [show s52 = sClone 64 from rfl]
  refine sClone_ok (P := Tryz.prog) (t := 64) (e := 44) (sz := 5) (by_ := 88) (z := [.slice none 0 0, .slice none 0 0, .slice none 0 0, I 0, I 0]) r1 (by rw [hlen]; omega) (by rw [hlen]; omega) ?_
  intro v1
  refine Gs.sortK (posR h) cmpP lin_cmpP.swo r2 (by rw [hlen]; omega) (by decide) (fun p cap w => AnyF.slices_SortFunc_none Tryz.sortPos p cap _ w)
    (fun γ _ en hk h1 cf hO blk off cap d w hcmp hH hblk hsz => AnyQ.slices_SortFunc Tryz.sortPos 5 (fun w => by kernel_rfl) (fun w => by kernel_rfl) en hk h1 cf hO 24 #[] blk off cap d w (fun args w => by kernel_rfl) hcmp hH hblk hsz)
    (fun x a y b hx hy => cmpP_ok x y a b h hx hy) ?_
  intro l' m' hp hpw hal
  obtain ⟨zs, e1, e2, e3⟩ := All2.zipped hal
  subst e1
  subst e2
  rw [← fl_encZ]
  have hzl : zs.length ≤ 1000 := by have := hp.length_eq; simp at this; omega
  refine in54 ?_
  rw [show s54 = sCompact 64 44 from rfl]
  refine sCompact_ok (P := Tryz.prog) (t := 64) (e := 44) (enc := encZ) (l := zs) (a0 := (((none, 0, 0), (none, 0, 0), (none, 0, 0), 0, 0), zeroP)) rfl (fun x y => decide (x.2 = y.2)) (by omega) ?_ ?_
  · intro L' K x y hx hy hk
    exact Gs.callv0 (sort1_ok x.1 y.1 x.2 y.2 h (e3 x hx) (e3 y hy)) hk
  · intro v2
    rw [fl_encZ]
    refine Gs.freezeE (v := v2) (enc := ePos) (l := (compactL (fun x y : PosH × Pt => decide (x.2 = y.2)) zs).map Prod.fst) (by decide) ?_
    intro h' hle r
    have e4 : (compactL (fun x y : PosH × Pt => decide (x.2 = y.2)) zs).map Prod.snd = sortU cmpP ps := by
      rw [compactL_map Prod.snd (fun p q : Pt => decide (p = q)) zs]
      exact compact_sortU lin_cmpP _ (fun x y => decide_eq_true_iff) hpw fun z => hp.mem_iff
    refine Gs.ret ⟨_, r, ?_⟩
    rw [← e4]
    exact All2.unzip fun z hz => (e3 z (compactL_sub _ _ _ hz)).mono hle
end Go.Proofs.YtcmokdokcghooaaGreatDoor
end

section
set_option linter.unusedVariables false
set_option maxHeartbeats 8000000
namespace Go.Proofs.YtcmokdokcghooaaGreatDoor
open Go Go.Sk Go.Pr Go.Ps Go.RowKit
variable {w0 : World} {h0 h : Hp} {L : List Itm} {K : Value → WP}
theorem RdE.z {h : Hp} {v : Value} {zs : List (PosH × Pt)} (hr : RdE h v ePos 5 (zs.map Prod.fst)) : RdE h v encZ 5 zs := by
  unfold RdE at *
  rw [List.length_map, ← fl_encZ] at hr
  exact hr
theorem find3_ok (ps : List Pt) (v : Value) (y : PosH) (p : Pt) (h : Hp) (hv : posL h v ps) (hn : ps.length ≤ 1000) (hp : posR h y p) (hs : Srt cmpP ps) : Ct Tryz.prog 29 [v, vPos y] h (fun _ r => ∃ n, r = I n ∧ FindR ps p n) := by
  refine ct29 ?_
  intro w0
  unfold s29
  obtain ⟨hs', r1, r2⟩ := hv
  obtain ⟨zs, rfl, rfl, e3⟩ := All2.zipped r2
  rw [List.length_map] at hn
  (repeat (first | refine G.step ?_ | (refine Gs.box ?_; intro _)))
  rename_i pb
  refine in64 ?_
  rw [show s64 = sBs 64 44 141 from rfl]
  have hpw := List.pairwise_iff_getElem.1 hs
  refine sBs_ok (P := Tryz.prog) (t := 64) (e := 44) (enc := encZ) (l := zs) (cs := ePos y) inferInstance (fun hk => Gs.box hk) (fun L' b K hb hk => by haveI := hb; exact Gs.qkb (hk _)) (fun z => cmpP z.2 p) (RdE.z r1) (by omega) ?_ ?_ ?_
  · intro L' K z hz hk
    exact Gs.callv0 (cmpP_ok z.1 y z.2 p h (e3 z hz) hp) hk
  · intro i j h1 h2 hij hlt
    rcases Nat.lt_or_eq_of_le hij with hlt' | rfl
    · have := hpw i j (by simp; omega) (by simp; omega) hlt'
      simp only [List.getElem_map] at this
      have r := lin_cmpP.rng zs[j].2 p
      have := lin_cmpP.tr zs[i].2 zs[j].2 p this (by omega)
      omega
    · exact hlt
  · intro i b hi hsp hb
    (repeat (refine G.step ?_))
    cases b
    · refine G.iff ?_
      refine Gs.ret ⟨-1, rfl, .inr ⟨rfl, fun hm => ?_⟩⟩
      obtain ⟨j, hj, e⟩ := List.getElem_of_mem hm
      simp only [List.getElem_map] at e
      simp only [List.length_map] at hj
      have hj1 := hsp j hj
      rw [e, lin_cmpP.refl] at hj1
      have hji : i ≤ j := by
        rcases Nat.lt_or_ge j i with h | h
        · have := hj1.1 h; omega
        · exact h
      have hil : i < zs.length := by omega
      have : cmpP zs[i].2 p = 0 := by
        rcases Nat.lt_or_eq_of_le hji with hlt | rfl
        · have a := (hsp i hil).2 (Nat.le_refl _)
          have b := hpw i j (by simp; omega) (by simp; omega) hlt
          simp only [List.getElem_map] at b
          rw [e] at b
          omega
        · rw [e, lin_cmpP.refl]
      simp at hb
      exact hb hil this
    · refine G.ift ?_
      obtain ⟨hil, he⟩ := hb.1 rfl
      exact Gs.ret ⟨i, rfl, .inl ⟨i, by simpa using hil, rfl, by simpa using (lin_cmpP.eq _ _).1 he⟩⟩
theorem rfind_ok (ps : List Pt) (v : Value) (y : PosH) (p : Pt) (h : Hp) (hv : posL h v ps) (hn : ps.length ≤ 1000) (hp : posR h y p) (hs : Srt cmpP ps) : Ct Tryz.prog 30 [v, vPos y] h (fun _ r => ∃ n, r = I n ∧ FindR ps p n) := by
  refine ct30 ?_
  intro w0
  unfold s30
  have hpw := List.pairwise_iff_getElem.1 hs
  (repeat (refine Gs.box ?_; intro _))
  rename_i pb
  refine Gs.lenF hv (by omega) ?_
  refine Gs.lp (β := Nat × Nat) (fun u => (I u.1, I u.2)) (fun _ => h) (fun _ => [.blk pb (ePos y) 44]) (fun u => u.1 ≤ u.2 ∧ u.2 ≤ ps.length ∧ (∀ j (hj : j < ps.length), j < u.1 → cmpP p ps[j] = 1) ∧ (∀ j (hj : j < ps.length), u.2 ≤ j → cmpP p ps[j] = -1)) (fun u => u.2 - u.1) (0, ps.length) rfl ⟨Nat.zero_le _, Nat.le_refl _, fun j _ hj => absurd hj (Nat.not_lt_zero _), fun j hj hj' => absurd hj (by omega)⟩ (fun _ s => s) ?_
  rintro ⟨lo, hi⟩ ⟨i1, i2, i3, i4⟩ cont hc
  dsimp only at *
  (repeat (first | refine G.step ?_ | (refine G.jk ?_; intro _)))
  refine G.ifd ?_ ?_ <;> intro hlt
  · refine G.add (by omega) ?_
    rw [show (lo : Int) + hi = ((lo + hi : Nat) : Int) by omega]
    refine G.quo (by decide) (by omega) ?_
    rw [tdiv2]
    (repeat (first | refine Gs.dr ?_ | refine Gs.qkb ?_))
    have hm : (lo + hi) / 2 < ps.length := by omega
    refine Gs.qindexF hv hm ?_
    intro b o x hpt hx
    refine Gs.qloadE hpt ?_
    refine Gs.callv0 (rcmpP_ok y x p _ h hp hx) ?_
    (repeat (refine G.step ?_))
    have hr := lin_cmpP.rng p ps[(lo + hi) / 2]
    refine G.ifd ?_ ?_ <;> intro h0
    · exact Gs.ret ⟨_, rfl, .inl ⟨_, hm, rfl, ((lin_cmpP.eq _ _).1 (by omega)).symm⟩⟩
    · (repeat (refine G.step ?_))
      refine G.ifd ?_ ?_ <;> intro hneg
      · refine Gs.goS (hc (lo, (lo + hi) / 2) ⟨by dsimp only; omega, by dsimp only; omega, i3, fun j hj hj' => ?_⟩ (by dsimp only; omega)) rfl
        dsimp only at hj'
        rcases Nat.lt_or_eq_of_le hj' with hl | rfl
        · exact lin_cmpP.tr _ _ _ (by omega) (hpw _ _ hm hj hl)
        · omega
      · (repeat (refine G.add (by omega) ?_))
        refine Gs.goS (hc ((lo + hi) / 2 + 1, hi) ⟨by dsimp only; omega, i2, fun j hj hj' => ?_, i4⟩ (by dsimp only; omega)) rfl
        dsimp only at hj'
        have hng := lin_cmpP.neg p ps[j]
        have hng' := lin_cmpP.neg p ps[(lo + hi) / 2]
        rcases Nat.lt_or_eq_of_le (Nat.le_of_lt_succ hj') with hl | rfl
        · have := lin_cmpP.tr _ _ _ (hpw _ _ hj hm hl) (by omega : cmpP ps[(lo + hi) / 2] p = -1)
          omega
        · omega
  · skip
    refine Gs.ret ⟨-1, rfl, .inr ⟨rfl, fun hm => ?_⟩⟩
    obtain ⟨j, hj, e⟩ := List.getElem_of_mem hm
    rcases Nat.lt_or_ge j lo with hl | hl
    · have := i3 j hj hl
      rw [e, lin_cmpP.refl] at this
      omega
    · have := i4 j hj (by omega)
      rw [e, lin_cmpP.refl] at this
      omega
end Go.Proofs.YtcmokdokcghooaaGreatDoor
end

section
set_option linter.unusedVariables false
set_option maxHeartbeats 8000000
namespace Go.Proofs.YtcmokdokcghooaaGreatDoor
open Go Go.Sk Go.Pr Go.Ps Go.RowKit
variable {w0 : World} {h0 h : Hp} {L : List Itm} {K : Value → WP}
theorem lists_ok (l m : List Pt) (u v : Value) (h : Hp) (hu : posL h u l) (hv : posL h v m) (hl : l.length ≤ 1000) (hm : m.length ≤ 1000) : Ct Tryz.prog 22 [u, v] h (fun _ r => r = .bool (decide (l = m))) := by
  refine ct22 ?_
  intro w0
  unfold s22
  refine Gs.lenF hu (by omega) ?_
  refine Gs.lenF hv (by omega) ?_
  (repeat (refine G.step ?_))
  refine G.ifd ?_ ?_ <;> intro hne
  · exact Gs.ret (by rw [decide_eq_false (fun e => by subst e; exact hne rfl)])
  · have hlm : l.length = m.length := by omega
    refine Gs.lp (β := Nat) (fun u => I u) (fun _ => h) (fun _ => []) (fun u => u ≤ l.length ∧ l.take u = m.take u) (fun u => l.length - u) 0 rfl ⟨Nat.zero_le _, rfl⟩ (fun _ s => s) ?_
    rintro i ⟨hi, heq⟩ cont hc
    (repeat (refine G.jk ?_; intro _))
    refine Gs.lenF hu (by omega) ?_
    (repeat (refine G.step ?_))
    refine G.ifd ?_ ?_ <;> intro hlt
    · have h1 : i < l.length := by omega
      have h2 : i < m.length := by omega
      (repeat (refine Gs.dr ?_))
      refine Gs.qindexF hu h1 ?_
      intro b o x hpt hx
      refine Gs.qloadE hpt ?_
      refine Gs.qindexF hv h2 ?_
      intro b' o' x' hpt' hx'
      refine Gs.qloadE hpt' ?_
      refine Gs.callv0 (rsame_ok x x' _ _ h hx hx') ?_
      (repeat (refine G.qkp ?_))
      by_cases hs : l[i] = m[i]
      · rw [decide_eq_true hs]
        (repeat (first | refine G.add (by omega) ?_ | refine G.iff ?_))
        have he := hs
        refine Gs.goS (hc (i + 1) ⟨by omega, ?_⟩ (by omega)) rfl
        rw [← List.take_append_getElem h1, ← List.take_append_getElem h2, heq, he]
      · rw [decide_eq_false hs]
        (repeat (refine G.ift ?_))
        exact Gs.ret (by rw [decide_eq_false]; rintro rfl; exact hs rfl)
    · have : l = m := by
        rw [List.take_of_length_le (by omega), List.take_of_length_le (by omega)] at heq
        exact heq
      exact Gs.ret (by rw [decide_eq_true this])
theorem has_ok (l : List Pt) (u : Value) (y : PosH) (p : Pt) (h : Hp) (hu : posL h u l) (hp : posR h y p) (hl : l.length ≤ 1000) : Ct Tryz.prog 35 [u, vPos y] h (fun _ r => r = .bool (decide (p ∈ l))) := by
  refine ct35 ?_
  intro w0
  unfold s35
  (repeat (refine Gs.box ?_; intro _))
  rename_i pb
  refine Gs.lp (β := Nat) (fun u => I u) (fun _ => h) (fun _ => [.blk pb (ePos y) 44]) (fun u => u ≤ l.length ∧ p ∉ l.take u) (fun u => l.length - u) 0 rfl ⟨Nat.zero_le _, by simp⟩ (fun _ s => s) ?_
  rintro i ⟨hi, hno⟩ cont hc
  (repeat (refine G.jk ?_; intro _))
  refine Gs.lenF hu (by omega) ?_
  (repeat (refine G.step ?_))
  refine G.ifd ?_ ?_ <;> intro hlt
  · have h1 : i < l.length := by omega
    (repeat (refine Gs.dr ?_))
    refine Gs.qindexF hu h1 ?_
    intro b o x hpt hx
    refine Gs.qloadE hpt ?_
    refine Gs.qkb ?_
    refine Gs.callv0 (equal_ok x y _ p h hx hp) ?_
    refine G.ifd ?_ ?_ <;> intro hs
    · exact Gs.ret (by rw [decide_eq_true (hs ▸ List.getElem_mem h1)])
    · (repeat (refine G.add (by omega) ?_))
      refine Gs.goS (hc (i + 1) ⟨by omega, ?_⟩ (by omega)) rfl
      rw [← List.take_append_getElem h1]
      simp only [List.mem_append, List.mem_singleton]
      rintro (hh | hh)
      · exact hno hh
      · exact hs hh.symm
  · rw [List.take_of_length_le (by omega)] at hno
    exact Gs.ret (by rw [decide_eq_false hno])
end Go.Proofs.YtcmokdokcghooaaGreatDoor
end

section
set_option linter.unusedVariables false
set_option maxHeartbeats 8000000
namespace Go.Proofs.YtcmokdokcghooaaGreatDoor
open Go Go.Sk Go.Pr Go.Ps Go.RowKit
variable {w0 : World} {h0 h : Hp} {L : List Itm} {K : Value → WP}
/-- The numbers of a raw position: cells 0.., kinds 6.., hands 12.., rights 16, side 17. -/
def eRw (x : Nat → UInt8) : List Value := (List.range 18).map fun i => .int .u8 (x i).toNat
instance : Enc eRw 18 := ⟨fun x => rfl, fun x v h => by
  unfold eRw at h
  simp only [List.mem_map] at h
  obtain ⟨i, _, rfl⟩ := h
  rfl⟩
theorem eRw_at (x : Nat → UInt8) {i : Nat} (hi : i < 18) : (eRw x)[i]? = some (.int .u8 (x i).toNat) := by
  unfold eRw
  rw [List.getElem?_map, List.getElem?_range hi]
  rfl
abbrev vRw (x : Nat → UInt8) : Value := .agg (eRw x).toArray
instance ldRw : LdE Tryz.prog 30 eRw (fun x => vRw x) := LdE.agg
def cellsB (g : Gm) (l : List Int) : Prop := l.length = g.cells ∧ ∀ n ∈ l, 0 ≤ n ∧ n ≤ 2 * g.kinds.length
def handP (g : Gm) (l : List Int) : Prop := l.length = g.kinds.length ∧ ∀ i (h1 : i < l.length) (h2 : i < g.kinds.length), 0 ≤ l[i] ∧ l[i] ≤ 8 ∧ (0 < l[i] → g.kinds[i].keep = true)
theorem handP_iff {ks : List Kd} {l : List Int} (h0 : l.length = ks.length) (h : ∀ i (h1 : i < l.length) (h2 : i < ks.length), 0 ≤ l[i] ∧ l[i] ≤ 8 ∧ (0 < l[i] → ks[i].keep = true)) : handB ks l = true := by
  induction ks generalizing l with
  | nil => cases l with
    | nil => rfl
    | cons n l => simp at h0
  | cons k ks ih => cases l with
    | nil => simp at h0
    | cons n l =>
      unfold handB
      rw [decide_eq_true (show 0 ≤ n ∧ n ≤ 8 ∧ (0 < n → k.keep = true) from h 0 (by simp) (by simp)), Bool.true_and]
      exact ih (by simpa using h0) fun i h1 h2 => h (i + 1) (by simpa using h1) (by simpa using h2)
theorem mem_set {l : List Int} {i : Nat} {a n : Int} (h : n ∈ l.set i a) : n = a ∨ n ∈ l := by
  rcases List.mem_or_eq_of_mem_set h with h | h
  · exact .inr h
  · exact .inl h
/-- What a made position is. -/
def MadeP (g : Gm) (h' : Hp) (v : Value) : Prop := ∃ (y : PosH) (p : Pt), v = vPos y ∧ posR h' y p ∧ ValidS g p
theorem made4_ok (g : Gm) (x : GmH) (r : Nat → UInt8) (h : Hp) (hg : gmR h x g) (hG : GoodG g) : Ct Tryz.prog 15 [vGm g x, vRw r] h (MadeP g) := by
  refine ct15 ?_
  intro w0
  unfold s15
  have hk1 := hG.k.l1
  have hk2 := hG.k.l2
  have hr2 := hG.r
  have hc1 := hG.b.c1
  have hc9 := hG.b.c9
  have hpow : (1 : Int) ≤ 2 ^ g.rights ∧ (2 : Int) ^ g.rights ≤ 4 := by
    refine ⟨?_, pow_le4 hr2⟩
    have := Nat.one_le_two_pow (n := g.rights)
    have e : ((2 ^ g.rights : Nat) : Int) = (2 : Int) ^ g.rights := by simp
    omega
  have hb := fun i => u8lt (r i)
  have hkl : RdF h (slv x.2.2.1) eKd 3 kdR g.kinds := hg.k
  (repeat (first | (refine Gs.box ?_; intro _) | (refine Gs.alloc ?_; intro _)))
  rename_i gb xb tb
  refine G.jnk (fun a S' => ∃ (pb : Nat) (v : SlH) (R Sd : Int), a = ptr pb 0 ∧ 0 ≤ R ∧ R < 2 ^ g.rights ∧ (Sd = 0 ∨ Sd = 1) ∧ S' = St w0 h h [.blk pb [slv v, .slice none 0 0, .slice none 0 0, I R, I Sd] 44, .sl (slv v) 3 1 (fl eInt (List.replicate g.cells 0)), .blk tb [.slice none 0 0, .slice none 0 0, .slice none 0 0, I 0, I 0] 44, .blk xb (eRw r) 30, .blk gb [I g.cells, slv x.1, slv x.2.1, slv x.2.2.1, I g.rights, .bool g.must, slv x.2.2.2, I g.blocked, I g.endless] 39]) ?_ ?_
  · rintro a _ ⟨pb, v, R, Sd, rfl, hR0, hR1, hSd, rfl⟩
    refine G.jk ?_; intro _
    refine Gs.sel (L' := [.sl (slv v) 3 1 (fl eInt (List.replicate g.cells 0)), .blk pb [slv v, .slice none 0 0, .slice none 0 0, I R, I Sd] 44, .blk tb [.slice none 0 0, .slice none 0 0, .slice none 0 0, I 0, I 0] 44, .blk xb (eRw r) 30, .blk gb [I g.cells, slv x.1, slv x.2.1, slv x.2.2.1, I g.rights, .bool g.must, slv x.2.2.2, I g.blocked, I g.endless] 39]) ?_
    refine Gs.lp (β := Nat × List Int) (fun u => I u.1) (fun _ => h) (fun u => [.sl (slv v) 3 1 (fl eInt u.2), .blk pb [slv v, .slice none 0 0, .slice none 0 0, I R, I Sd] 44, .blk tb [.slice none 0 0, .slice none 0 0, .slice none 0 0, I 0, I 0] 44, .blk xb (eRw r) 30, .blk gb [I g.cells, slv x.1, slv x.2.1, slv x.2.2.1, I g.rights, .bool g.must, slv x.2.2.2, I g.blocked, I g.endless] 39]) (fun u => u.1 ≤ 6 ∧ cellsB g u.2) (fun u => 6 - u.1) (0, List.replicate g.cells 0) rfl ⟨by simp, by simp, fun n hn => by have := List.eq_of_mem_replicate hn; omega⟩ (fun _ s => s) ?_
    rintro ⟨i, cl⟩ ⟨hi, hcl⟩ cont hc
    dsimp only at *
    (repeat (first | refine G.step ?_ | (refine G.jk ?_; intro _)))
    refine G.ifd ?_ ?_ <;> intro hlt
    · refine G.jnk (fun _ S' => ∃ l', cellsB g l' ∧ S' = St w0 h h [.sl (slv v) 3 1 (fl eInt l'), .blk pb [slv v, .slice none 0 0, .slice none 0 0, I R, I Sd] 44, .blk tb [.slice none 0 0, .slice none 0 0, .slice none 0 0, I 0, I 0] 44, .blk xb (eRw r) 30, .blk gb [I g.cells, slv x.1, slv x.2.1, slv x.2.2.1, I g.rights, .bool g.must, slv x.2.2.2, I g.blocked, I g.endless] 39]) ?_ ?_
      · rintro a _ ⟨l', hl', rfl⟩
        refine G.jk ?_; intro _
        (repeat (refine G.add (by omega) ?_))
        exact Gs.goS (hc (i + 1, l') ⟨by dsimp only; omega, hl'⟩ (by dsimp only; omega)) rfl
      · intro k' hk'
        (repeat (first | refine Gs.dr ?_ | refine G.qkp ?_))
        refine G.qixN (i := i) (n := 6) (by omega) ?_
        refine Gs.qldN (by rw [Nat.zero_add, Nat.mul_one]; exact eRw_at r (by omega)) ?_
        refine G.qconv (by have := hb i; omega) ?_
        (repeat (first | refine G.qadd (by omega) ?_ | refine G.qkp ?_ | refine Gs.qkb ?_))
        refine G.qremN (by omega) (by omega) ?_
        obtain ⟨c, hc', hcle⟩ : ∃ c : Nat, ((r i).toNat : Int) % ((g.cells : Int) + 1) = c ∧ c ≤ g.cells := ⟨(r i).toNat % (g.cells + 1), by simp, by have := Nat.mod_lt (r i).toNat (show 0 < g.cells + 1 by omega); omega⟩
        rw [hc']
        refine G.jnP (fun j => j = .bool (decide (c < g.cells))) ?_ ?_
        · rintro j rfl
          refine G.jk ?_; intro _
          refine G.ifd ?_ ?_ <;> intro hlc
          · (repeat (first | refine Gs.dr ?_ | refine G.qkp ?_ | refine Gs.qkb ?_))
            refine G.qixN (i := i) (n := 6) (by omega) ?_
            refine Gs.qldN (by rw [Nat.mul_one]; exact eRw_at r (by omega)) ?_
            refine G.qconv (by have := hb (6 + i); omega) ?_
            (repeat (first | refine G.qkp ?_ | refine Gs.qkb ?_))
            refine Gs.qlenF hkl (by omega) ?_
            refine G.qremN (by omega) (by omega) ?_
            obtain ⟨k, hk, hkle⟩ : ∃ k : Nat, ((r (6 + i)).toNat : Int) % (g.kinds.length : Int) = k ∧ k < g.kinds.length := ⟨(r (6 + i)).toNat % g.kinds.length, by simp, Nat.mod_lt _ (by omega)⟩
            rw [hk]
            (repeat (first | refine G.qadd (by omega) ?_ | refine G.qmul (by omega) ?_))
            refine G.qremN (by omega) (by omega) ?_
            (repeat (refine G.qadd (by omega) ?_))
            refine Gs.qsetE (enc := eInt) (l := cl) (a := 1 + 2 * (k : Int) + (i : Int) % 2) (i := c) (by rw [hcl.1]; exact hlc) ?_
            intro _
            refine hk' _ _ ⟨_, ⟨by rw [List.length_set]; exact hcl.1, fun n hn => ?_⟩, rfl⟩
            rcases mem_set hn with rfl | hn
            · omega
            · exact hcl.2 n hn
          · exact hk' _ _ ⟨cl, hcl, rfl⟩
        · intro K hK
          (repeat (refine G.step ?_))
          refine G.gddt ?_ ?_ <;> intro hlc
          · (repeat (refine G.step ?_))
            refine Gs.lenF hkl (by omega) ?_
            (repeat (refine G.step ?_))
            exact hK _ (by congr 1; rw [decide_eq_decide]; omega)
          · exact hK _ (by rw [decide_eq_false (by omega)])
    · have hhand : ∀ l : List Int, l.length = g.kinds.length → (∀ j (h1 : j < l.length) (h2 : j < g.kinds.length), 0 ≤ l[j] ∧ l[j] ≤ 8 ∧ (0 < l[j] → g.kinds[j].keep = true)) → handB g.kinds l = true := fun l h1 h2 => handP_iff h1 h2
      clear hc
      refine Gs.nilsl 3 1 ?_
      refine Gs.nilsl 3 1 ?_
      refine Gs.sel (L' := [.blk pb [slv v, .slice none 0 0, .slice none 0 0, I R, I Sd] 44, .sl (.slice none 0 0) 3 1 [], .sl (.slice none 0 0) 3 1 [], .sl (slv v) 3 1 (fl eInt cl), .blk tb [.slice none 0 0, .slice none 0 0, .slice none 0 0, I 0, I 0] 44, .blk xb (eRw r) 30, .blk gb [I g.cells, slv x.1, slv x.2.1, slv x.2.2.1, I g.rights, .bool g.must, slv x.2.2.2, I g.blocked, I g.endless] 39]) ?_
      refine Gs.lp (β := Int × SlH × List Int × SlH × List Int) (fun u => I u.1) (fun _ => h) (fun u => [.blk pb [slv v, slv u.2.1, slv u.2.2.2.1, I R, I Sd] 44, .sl (slv u.2.1) 3 1 (fl eInt u.2.2.1), .sl (slv u.2.2.2.1) 3 1 (fl eInt u.2.2.2.2), .sl (slv v) 3 1 (fl eInt cl), .blk tb [.slice none 0 0, .slice none 0 0, .slice none 0 0, I 0, I 0] 44, .blk xb (eRw r) 30, .blk gb [I g.cells, slv x.1, slv x.2.1, slv x.2.2.1, I g.rights, .bool g.must, slv x.2.2.2, I g.blocked, I g.endless] 39]) (fun u => u.1 ≤ 2 ∧ ((u.1 = 0 ∧ u.2.1 = (none, 0, 0) ∧ u.2.2.1 = [] ∧ u.2.2.2.1 = (none, 0, 0) ∧ u.2.2.2.2 = []) ∨ (u.1 = 1 ∧ handB g.kinds u.2.2.1 = true ∧ u.2.2.2.1 = (none, 0, 0) ∧ u.2.2.2.2 = []) ∨ (u.1 = 2 ∧ handB g.kinds u.2.2.1 = true ∧ handB g.kinds u.2.2.2.2 = true))) (fun u => (2 - u.1).toNat) (0, (none, 0, 0), [], (none, 0, 0), []) rfl ⟨by simp, .inl ⟨rfl, rfl, rfl, rfl, rfl⟩⟩ (fun _ s => s) ?_
      rintro ⟨s, qa, la, qb, lb⟩ ⟨hs2, hs⟩ cont2 hc2
      dsimp only at *
      rcases hs with ⟨rfl, rfl, rfl, rfl, rfl⟩ | ⟨rfl, hla, rfl, rfl⟩ | ⟨rfl, hla, hlb⟩
      · (repeat (first | refine G.step ?_ | refine G.ift ?_ | (refine G.jk ?_; intro _)))
        refine Gs.lenF hkl (by omega) ?_
        refine Gs.make (enc := eInt) (a0 := 0) rfl (by omega) (by omega) (by omega) ?_
        intro v1
        refine Gs.slH (v := v1) ?_
        rintro q rfl
        rw [Int.toNat_natCast]
        (repeat (first | refine G.step ?_ | refine Gs.store ?_))
        refine Gs.sel (L' := [.sl (slv q) 3 1 (fl eInt (List.replicate g.kinds.length 0)), .blk pb [slv v, slv q, .slice none 0 0, I R, I Sd] 44, .sl (slv v) 3 1 (fl eInt cl), .blk tb [.slice none 0 0, .slice none 0 0, .slice none 0 0, I 0, I 0] 44, .blk xb (eRw r) 30, .blk gb [I g.cells, slv x.1, slv x.2.1, slv x.2.2.1, I g.rights, .bool g.must, slv x.2.2.2, I g.blocked, I g.endless] 39]) ?_
        refine Gs.lp (β := Nat × List Int) (fun u => I u.1) (fun _ => h) (fun u => [.sl (slv q) 3 1 (fl eInt u.2), .blk pb [slv v, slv q, .slice none 0 0, I R, I Sd] 44, .sl (slv v) 3 1 (fl eInt cl), .blk tb [.slice none 0 0, .slice none 0 0, .slice none 0 0, I 0, I 0] 44, .blk xb (eRw r) 30, .blk gb [I g.cells, slv x.1, slv x.2.1, slv x.2.2.1, I g.rights, .bool g.must, slv x.2.2.2, I g.blocked, I g.endless] 39]) (fun u => u.1 ≤ g.kinds.length ∧ u.2.length = g.kinds.length ∧ ∀ j (h1 : j < u.2.length) (h2 : j < g.kinds.length), 0 ≤ u.2[j] ∧ u.2[j] ≤ 8 ∧ (0 < u.2[j] → g.kinds[j].keep = true)) (fun u => g.kinds.length - u.1) (0, List.replicate g.kinds.length 0) rfl ⟨Nat.zero_le _, by simp, fun j h1 h2 => by simp⟩ (fun _ s => s) ?_
        rintro u ⟨hu1, hu2, hu3⟩ cont3 hc3
        (repeat (refine G.jk ?_; intro _))
        refine G.jnP (fun j => j = .bool (decide (u.1 < g.kinds.length))) ?_ ?_
        · rintro j rfl
          refine G.jk ?_; intro _
          refine G.ifd ?_ ?_ <;> intro hlt2
          · refine G.jnk (fun _ S' => ∃ l' : List Int, (l'.length = g.kinds.length ∧ ∀ j (h1 : j < l'.length) (h2 : j < g.kinds.length), 0 ≤ l'[j] ∧ l'[j] ≤ 8 ∧ (0 < l'[j] → g.kinds[j].keep = true)) ∧ S' = St w0 h h [.sl (slv q) 3 1 (fl eInt l'), .blk pb [slv v, slv q, .slice none 0 0, I R, I Sd] 44, .sl (slv v) 3 1 (fl eInt cl), .blk tb [.slice none 0 0, .slice none 0 0, .slice none 0 0, I 0, I 0] 44, .blk xb (eRw r) 30, .blk gb [I g.cells, slv x.1, slv x.2.1, slv x.2.2.1, I g.rights, .bool g.must, slv x.2.2.2, I g.blocked, I g.endless] 39]) ?_ ?_
            · rintro a _ ⟨l', hl', rfl⟩
              refine G.jk ?_; intro _
              (repeat (refine G.add (by omega) ?_))
              exact Gs.goS (hc3 (u.1 + 1, l') ⟨by dsimp only; omega, hl'⟩ (by dsimp only; omega)) rfl
            · intro k3 hk3
              (repeat (refine G.step ?_))
              refine Gs.indexF hkl hlt2 ?_
              intro kb ko kx hpt hkx
              (repeat (refine G.step ?_))
              refine Gs.loadP1 hpt.field ?_
              rw [hkx.k]
              refine G.ifb ?_ ?_ <;> intro hkeep
              · (repeat (first | refine Gs.dr ?_ | refine G.qadd (by omega) ?_ | refine G.qmul (by omega) ?_ | refine G.qkp ?_ | refine Gs.qkb ?_))
                rw [show (2 : Int) * 0 + (u.1 : Int) = ((u.1 : Nat) : Int) by omega]
                refine G.qixN (i := u.1) (n := 4) (by omega) ?_
                refine Gs.qldN (by rw [Nat.mul_one]; exact eRw_at r (i := 12 + u.1) (by omega)) ?_
                have hbb := hb (12 + u.1)
                refine G.qconv (by omega) ?_
                refine G.qremN (by omega) (by omega) ?_
                refine Gs.qsetE (enc := eInt) (l := u.2) (a := ((r (12 + u.1)).toNat : Int) % 3) (i := u.1) (by omega) ?_
                intro _
                have hset : ∀ (l : List Int) (a : Int), 0 ≤ a ∧ a ≤ 8 → (l.length = g.kinds.length ∧ ∀ j (h1 : j < l.length) (h2 : j < g.kinds.length), 0 ≤ l[j] ∧ l[j] ≤ 8 ∧ (0 < l[j] → g.kinds[j].keep = true)) → ((l.set u.1 a).length = g.kinds.length ∧ ∀ j (h1 : j < (l.set u.1 a).length) (h2 : j < g.kinds.length), 0 ≤ (l.set u.1 a)[j] ∧ (l.set u.1 a)[j] ≤ 8 ∧ (0 < (l.set u.1 a)[j] → g.kinds[j].keep = true)) := fun l a ha hl => by
                  refine ⟨by rw [List.length_set]; exact hl.1, fun j h1 h2 => ?_⟩
                  rw [List.getElem_set]
                  split
                  · rename_i e
                    subst e
                    exact ⟨ha.1, ha.2, fun _ => hkeep⟩
                  · exact hl.2 j (by rw [List.length_set] at h1; exact h1) h2
                have hs1 := hset u.2 (((r (12 + u.1)).toNat : Int) % 3) (by omega) ⟨hu2, hu3⟩
                (repeat (first | refine G.add (by omega) ?_ | refine G.mul (by omega) ?_ | refine G.step ?_))
                rw [show (2 : Int) * 0 + (u.1 : Int) = ((u.1 : Nat) : Int) by omega]
                refine G.ixN (i := u.1) (n := 4) (by omega) ?_
                refine Gs.ldN (by rw [Nat.mul_one]; exact eRw_at r (i := 12 + u.1) (by omega)) ?_
                (repeat (refine G.step ?_))
                refine G.ifd ?_ ?_ <;> intro hbig
                · (repeat (refine G.step ?_))
                  refine Gs.setE (enc := eInt) (l := u.2.set u.1 (((r (12 + u.1)).toNat : Int) % 3)) (a := 8) (i := u.1) (by rw [hs1.1]; exact hlt2) ?_
                  intro _
                  exact hk3 _ _ ⟨_, hset _ 8 (by omega) hs1, rfl⟩
                · exact hk3 _ _ ⟨_, hs1, rfl⟩
              · exact hk3 _ _ ⟨u.2, ⟨hu2, hu3⟩, rfl⟩
          · (repeat (refine G.add (by omega) ?_))
            refine Gs.nilsl 3 1 ?_
            exact Gs.goS (L' := [.blk pb [slv v, slv q, .slice none 0 0, I R, I Sd] 44, .sl (slv q) 3 1 (fl eInt u.2), .sl (.slice none 0 0) 3 1 [], .sl (slv v) 3 1 (fl eInt cl), .blk tb [.slice none 0 0, .slice none 0 0, .slice none 0 0, I 0, I 0] 44, .blk xb (eRw r) 30, .blk gb [I g.cells, slv x.1, slv x.2.1, slv x.2.2.1, I g.rights, .bool g.must, slv x.2.2.2, I g.blocked, I g.endless] 39]) (hc2 (1, q, u.2, (none, 0, 0), []) ⟨by simp, .inr (.inl ⟨rfl, hhand u.2 hu2 hu3, rfl, rfl⟩)⟩ (by dsimp only; omega)) rfl
        · intro K hK
          (repeat (refine G.step ?_))
          refine Gs.lenF hkl (by omega) ?_
          (repeat (refine G.step ?_))
          refine G.gddt ?_ ?_ <;> intro hlt2
          · (repeat (refine G.step ?_))
            exact hK _ (by congr 1; rw [decide_eq_decide]; omega)
          · exact hK _ (by rw [decide_eq_false (by omega)])
      · (repeat (first | refine G.step ?_ | refine G.ift ?_ | (refine G.jk ?_; intro _)))
        refine Gs.lenF hkl (by omega) ?_
        refine Gs.make (enc := eInt) (a0 := 0) rfl (by omega) (by omega) (by omega) ?_
        intro v1
        refine Gs.slH (v := v1) ?_
        rintro q rfl
        rw [Int.toNat_natCast]
        (repeat (first | refine G.step ?_ | refine Gs.store ?_))
        refine Gs.sel (L' := [.sl (slv q) 3 1 (fl eInt (List.replicate g.kinds.length 0)), .blk pb [slv v, slv qa, slv q, I R, I Sd] 44, .sl (slv qa) 3 1 (fl eInt la), .sl (slv v) 3 1 (fl eInt cl), .blk tb [.slice none 0 0, .slice none 0 0, .slice none 0 0, I 0, I 0] 44, .blk xb (eRw r) 30, .blk gb [I g.cells, slv x.1, slv x.2.1, slv x.2.2.1, I g.rights, .bool g.must, slv x.2.2.2, I g.blocked, I g.endless] 39]) ?_
        refine Gs.lp (β := Nat × List Int) (fun u => I u.1) (fun _ => h) (fun u => [.sl (slv q) 3 1 (fl eInt u.2), .blk pb [slv v, slv qa, slv q, I R, I Sd] 44, .sl (slv qa) 3 1 (fl eInt la), .sl (slv v) 3 1 (fl eInt cl), .blk tb [.slice none 0 0, .slice none 0 0, .slice none 0 0, I 0, I 0] 44, .blk xb (eRw r) 30, .blk gb [I g.cells, slv x.1, slv x.2.1, slv x.2.2.1, I g.rights, .bool g.must, slv x.2.2.2, I g.blocked, I g.endless] 39]) (fun u => u.1 ≤ g.kinds.length ∧ u.2.length = g.kinds.length ∧ ∀ j (h1 : j < u.2.length) (h2 : j < g.kinds.length), 0 ≤ u.2[j] ∧ u.2[j] ≤ 8 ∧ (0 < u.2[j] → g.kinds[j].keep = true)) (fun u => g.kinds.length - u.1) (0, List.replicate g.kinds.length 0) rfl ⟨Nat.zero_le _, by simp, fun j h1 h2 => by simp⟩ (fun _ s => s) ?_
        rintro u ⟨hu1, hu2, hu3⟩ cont3 hc3
        (repeat (refine G.jk ?_; intro _))
        refine G.jnP (fun j => j = .bool (decide (u.1 < g.kinds.length))) ?_ ?_
        · rintro j rfl
          refine G.jk ?_; intro _
          refine G.ifd ?_ ?_ <;> intro hlt2
          · refine G.jnk (fun _ S' => ∃ l' : List Int, (l'.length = g.kinds.length ∧ ∀ j (h1 : j < l'.length) (h2 : j < g.kinds.length), 0 ≤ l'[j] ∧ l'[j] ≤ 8 ∧ (0 < l'[j] → g.kinds[j].keep = true)) ∧ S' = St w0 h h [.sl (slv q) 3 1 (fl eInt l'), .blk pb [slv v, slv qa, slv q, I R, I Sd] 44, .sl (slv qa) 3 1 (fl eInt la), .sl (slv v) 3 1 (fl eInt cl), .blk tb [.slice none 0 0, .slice none 0 0, .slice none 0 0, I 0, I 0] 44, .blk xb (eRw r) 30, .blk gb [I g.cells, slv x.1, slv x.2.1, slv x.2.2.1, I g.rights, .bool g.must, slv x.2.2.2, I g.blocked, I g.endless] 39]) ?_ ?_
            · rintro a _ ⟨l', hl', rfl⟩
              refine G.jk ?_; intro _
              (repeat (refine G.add (by omega) ?_))
              exact Gs.goS (hc3 (u.1 + 1, l') ⟨by dsimp only; omega, hl'⟩ (by dsimp only; omega)) rfl
            · intro k3 hk3
              (repeat (refine G.step ?_))
              refine Gs.indexF hkl hlt2 ?_
              intro kb ko kx hpt hkx
              (repeat (refine G.step ?_))
              refine Gs.loadP1 hpt.field ?_
              rw [hkx.k]
              refine G.ifb ?_ ?_ <;> intro hkeep
              · (repeat (first | refine Gs.dr ?_ | refine G.qadd (by omega) ?_ | refine G.qmul (by omega) ?_ | refine G.qkp ?_ | refine Gs.qkb ?_))
                rw [show (2 : Int) * 1 + (u.1 : Int) = ((2 + u.1 : Nat) : Int) by omega]
                refine G.qixN (i := 2 + u.1) (n := 4) (by omega) ?_
                refine Gs.qldN (by rw [Nat.mul_one]; exact eRw_at r (i := 12 + (2 + u.1)) (by omega)) ?_
                have hbb := hb (12 + (2 + u.1))
                refine G.qconv (by omega) ?_
                refine G.qremN (by omega) (by omega) ?_
                refine Gs.qsetE (enc := eInt) (l := u.2) (a := ((r (12 + (2 + u.1))).toNat : Int) % 3) (i := u.1) (by omega) ?_
                intro _
                have hset : ∀ (l : List Int) (a : Int), 0 ≤ a ∧ a ≤ 8 → (l.length = g.kinds.length ∧ ∀ j (h1 : j < l.length) (h2 : j < g.kinds.length), 0 ≤ l[j] ∧ l[j] ≤ 8 ∧ (0 < l[j] → g.kinds[j].keep = true)) → ((l.set u.1 a).length = g.kinds.length ∧ ∀ j (h1 : j < (l.set u.1 a).length) (h2 : j < g.kinds.length), 0 ≤ (l.set u.1 a)[j] ∧ (l.set u.1 a)[j] ≤ 8 ∧ (0 < (l.set u.1 a)[j] → g.kinds[j].keep = true)) := fun l a ha hl => by
                  refine ⟨by rw [List.length_set]; exact hl.1, fun j h1 h2 => ?_⟩
                  rw [List.getElem_set]
                  split
                  · rename_i e
                    subst e
                    exact ⟨ha.1, ha.2, fun _ => hkeep⟩
                  · exact hl.2 j (by rw [List.length_set] at h1; exact h1) h2
                have hs1 := hset u.2 (((r (12 + (2 + u.1))).toNat : Int) % 3) (by omega) ⟨hu2, hu3⟩
                (repeat (first | refine G.add (by omega) ?_ | refine G.mul (by omega) ?_ | refine G.step ?_))
                rw [show (2 : Int) * 1 + (u.1 : Int) = ((2 + u.1 : Nat) : Int) by omega]
                refine G.ixN (i := 2 + u.1) (n := 4) (by omega) ?_
                refine Gs.ldN (by rw [Nat.mul_one]; exact eRw_at r (i := 12 + (2 + u.1)) (by omega)) ?_
                (repeat (refine G.step ?_))
                refine G.ifd ?_ ?_ <;> intro hbig
                · (repeat (refine G.step ?_))
                  refine Gs.setE (enc := eInt) (l := u.2.set u.1 (((r (12 + (2 + u.1))).toNat : Int) % 3)) (a := 8) (i := u.1) (by rw [hs1.1]; exact hlt2) ?_
                  intro _
                  exact hk3 _ _ ⟨_, hset _ 8 (by omega) hs1, rfl⟩
                · exact hk3 _ _ ⟨_, hs1, rfl⟩
              · exact hk3 _ _ ⟨u.2, ⟨hu2, hu3⟩, rfl⟩
          · (repeat (refine G.add (by omega) ?_))
            exact Gs.goS (hc2 (2, qa, la, q, u.2) ⟨by simp, .inr (.inr ⟨rfl, hla, hhand u.2 hu2 hu3⟩)⟩ (by dsimp only; omega)) rfl
        · intro K hK
          (repeat (refine G.step ?_))
          refine Gs.lenF hkl (by omega) ?_
          (repeat (refine G.step ?_))
          refine G.gddt ?_ ?_ <;> intro hlt2
          · (repeat (refine G.step ?_))
            exact hK _ (by congr 1; rw [decide_eq_decide]; omega)
          · exact hK _ (by rw [decide_eq_false (by omega)])
      · (repeat (first | refine G.step ?_ | refine Gs.store ?_ | refine G.retc ?_ | refine G.iff ?_ | (refine G.jk ?_; intro _)))
        refine Gs.freezeE (v := slv qa) (enc := eInt) (l := la) (by decide) ?_
        intro h1 hle1 r1
        refine Gs.freezeE (v := slv qb) (enc := eInt) (l := lb) (by decide) ?_
        intro h2 hle2 r2
        refine Gs.freezeE (v := slv v) (enc := eInt) (l := cl) (by decide) ?_
        intro h3 hle3 r3
        skip
        refine Gs.ret ⟨(v, qa, qb, R, Sd), ⟨cl, la, lb, R, Sd⟩, rfl, ⟨r3, (r1.mono hle2).mono hle3, r2.mono hle3, rfl, rfl, ?_, ?_, ?_⟩, ?_⟩
        · show cl.length ≤ _
          rw [hcl.1]; omega
        · show la.length ≤ _
          rw [handB_len hla]; omega
        · show lb.length ≤ _
          rw [handB_len hlb]; omega
        · exact ⟨hcl.1, hcl.2, hla, hlb, ⟨hR0, hR1⟩, hSd⟩
  · intro k' hk'
    (repeat (first | refine Gs.dr ?_ | refine G.qkp ?_ | refine Gs.qkb ?_))
    refine Gs.qldN (eRw_at r (i := 16) (by omega)) ?_
    refine G.qconv (by have := hb 16; omega) ?_
    (repeat (first | refine G.qkp ?_ | refine Gs.qkb ?_))
    refine G.qshl1 (by omega) ?_
    refine G.qremN (by omega) (by omega) ?_
    (repeat (refine G.qkp ?_))
    refine Gs.qldN (eRw_at r (i := 17) (by omega)) ?_
    refine G.qrem8 (by omega) (by omega) ?_
    refine G.qconv (by omega) ?_
    have hm0 := Int.emod_nonneg (((r 16).toNat : Int)) (show (2 : Int) ^ g.rights ≠ 0 by omega)
    have hm1 := Int.emod_lt_of_pos (((r 16).toNat : Int)) (show (0 : Int) < 2 ^ g.rights by omega)
    have hs0 : ((r 17).toNat : Int) % 2 = 0 ∨ ((r 17).toNat : Int) % 2 = 1 := by omega
    generalize ((r 16).toNat : Int) % 2 ^ g.rights = R at *
    generalize ((r 17).toNat : Int) % 2 = Sd at *
    refine G.or2 ?_ ?_
    · refine Gs.make (enc := eInt) (a0 := 0) rfl (by omega) (by omega) (by omega) ?_
      intro v
      refine Gs.slH (v := v) ?_
      rintro q rfl
      rw [Int.toNat_natCast]
      (repeat (first | (refine Gs.alloc ?_; intro _) | refine Gs.store ?_ | refine G.qkp ?_ | refine G.withT ?_ | refine Gs.withb ?_))
      refine hk' _ _ ⟨_, q, R, Sd, rfl, hm0, hm1, hs0, rfl⟩
    · (repeat (first | (refine Gs.alloc ?_; intro _) | refine G.withT ?_ | refine Gs.withb ?_))
      refine Gs.make (enc := eInt) (a0 := 0) rfl (by omega) (by omega) (by omega) ?_
      intro v
      refine Gs.slH (v := v) ?_
      rintro q rfl
      rw [Int.toNat_natCast]
      (repeat (first | refine Gs.store ?_ | refine G.qkp ?_ | refine G.withT ?_ | refine Gs.withb ?_))
      refine hk' _ _ ⟨_, q, R, Sd, rfl, hm0, hm1, hs0, rfl⟩
end Go.Proofs.YtcmokdokcghooaaGreatDoor
end

section
set_option linter.unusedVariables false
set_option maxHeartbeats 8000000
namespace Go.Proofs.YtcmokdokcghooaaGreatDoor
open Go Go.Sk Go.Pr Go.Ps Go.RowKit
variable {w0 : World} {h0 h : Hp} {L : List Itm} {K : Value → WP}
theorem many_ok (g : Gm) (x : GmH) (rs : List (Nat → UInt8)) (v : Value) (n : Nat) (h : Hp) (hg : gmR h x g) (hG : GoodG g) (hv : RdE h v eRw 18 rs) (hl : rs.length ≤ 9223372036854775807) (hn : n ≤ 1000) :
    Ct Tryz.prog 20 [vGm g x, v, I n] h (fun h' r => ∃ ps, posL h' r ps ∧ ps.length ≤ n ∧ ∀ p ∈ ps, ValidS g p) := by
  refine ct20 ?_
  intro w0
  unfold s20
  (repeat (refine Gs.box ?_; intro _))
  rename_i gb
  refine Gs.buildSlice (by decide) ?_
  intro q0
  refine Gs.lp (β := Nat × Value × List PosH × List Pt × Hp) (fun u => (u.2.1, I u.1)) (fun u => u.2.2.2.2) (fun u => [.sl u.2.1 44 5 (fl ePos u.2.2.1), .blk gb [I g.cells, slv x.1, slv x.2.1, slv x.2.2.1, I g.rights, .bool g.must, slv x.2.2.2, I g.blocked, I g.endless] 39]) (fun u => u.1 ≤ rs.length ∧ u.1 ≤ n ∧ Hle h u.2.2.2.2 ∧ All2 (posR u.2.2.2.2) u.2.2.1 u.2.2.2.1 ∧ u.2.2.2.1.length = u.1 ∧ ∀ p ∈ u.2.2.2.1, ValidS g p) (fun u => n - u.1) (0, .slice (some ⟨q0, 0, none⟩) 0 0, [], [], h) rfl ⟨Nat.zero_le _, Nat.zero_le _, Hle.refl _, .nil, rfl, fun p hp => by simp at hp⟩ (fun _ s => s) ?_
  rintro ⟨i, q, ys, ps, h'⟩ ⟨hi1, hi2, hle, hal, hpl, hval⟩ cont hc
  dsimp only at *
  have hv' := hv.mono hle
  have hg' := hg.mono hle
  have hyl := hal.len
  (repeat (refine G.jk ?_; intro _))
  refine G.jnP (fun j => j = .bool (decide (i < rs.length ∧ i < n))) ?_ ?_
  · rintro j rfl
    refine G.jk ?_; intro _
    refine G.ifd ?_ ?_ <;> intro hlt
    · obtain ⟨hlt1, hlt2⟩ := hlt
      (repeat (first | refine Gs.dr ?_ | refine Gs.qkb ?_))
      refine Gs.qindexE hv' hlt1 ?_
      intro b o hpt
      refine Gs.qloadE hpt ?_
      refine Gs.call0 (made4_ok g x _ h' hg' hG) ?_
      rintro _ h2 hle2 ⟨y, p, rfl, hpr, hpv⟩
      skip
      refine Gs.buildSlice (by decide) ?_
      intro q1
      skip
      refine Gs.appendO (enc := ePos) (l := ys) (m := [y]) (e2 := 44) (by simp [fl]) (by simp; omega) (by simp; omega) ?_
      intro q2
      (repeat (refine G.add (by omega) ?_))
      exact Gs.goS (hc (i + 1, q2, ys ++ [y], ps ++ [p], h2) ⟨by dsimp only; omega, by dsimp only; omega, hle.trans hle2, (All2.monoR hle2 hal).snoc hpr, by simp [hpl], fun p' hp' => by
        rcases List.mem_append.1 hp' with hp' | hp'
        · exact hval p' hp'
        · rw [List.mem_singleton.1 hp']; exact hpv⟩ (by dsimp only; omega)) rfl
    · refine Gs.freezeE (v := q) (enc := ePos) (l := ys) (by decide) ?_
      intro h2 hle2 r
      exact Gs.ret ⟨ps, ⟨ys, r, All2.monoR hle2 hal⟩, by omega, hval⟩
  · intro K hK
    refine Gs.lenE hv' (by omega) ?_
    (repeat (refine G.step ?_))
    refine G.gddt ?_ ?_ <;> intro hlt
    · (repeat (refine G.step ?_))
      exact hK _ (by congr 1; rw [decide_eq_decide]; omega)
    · exact hK _ (by rw [decide_eq_false (by omega)])
end Go.Proofs.YtcmokdokcghooaaGreatDoor
end

section
set_option linter.unusedVariables false
set_option maxHeartbeats 8000000
namespace Go.Proofs.YtcmokdokcghooaaGreatDoor
open Go Go.Sk Go.Pr Go.Ps Go.RowKit
variable {w0 : World} {h0 h : Hp} {L : List Itm} {K : Value → WP}
abbrev leP (a b : Pt) : Prop := cmpP a b ≤ 0
theorem leP_tr {a b c : Pt} (h1 : leP a b) (h2 : leP b c) : leP a c := by
  unfold leP at *
  rcases lin_cmpP.rng a b with h | h | h
  · rcases lin_cmpP.rng b c with h' | h' | h'
    · have := lin_cmpP.tr _ _ _ h h'; omega
    · rw [← (lin_cmpP.eq _ _).1 h']; omega
    · omega
  · rw [(lin_cmpP.eq _ _).1 h]; exact h2
  · omega
theorem leP_flip {a b : Pt} (h : ¬ leP a b) : leP b a := by
  unfold leP at *
  have := lin_cmpP.neg a b
  omega
def SrtL (l : List Pt) : Prop := l.Pairwise leP
structure Mrg (ps a b ms : List Pt) (i k : Nat) : Prop where
  perm : (ms ++ (a.drop i ++ b.drop k)).Perm ps
  srt : SrtL ms
  la : ∀ m ∈ ms, ∀ y ∈ a.drop i, leP m y
  lb : ∀ m ∈ ms, ∀ y ∈ b.drop k, leP m y
theorem SrtL.snoc {l : List Pt} {x : Pt} (h : SrtL l) (hx : ∀ m ∈ l, leP m x) : SrtL (l ++ [x]) := List.pairwise_append.2 ⟨h, List.pairwise_singleton _ _, fun a ha b hb => by rw [List.mem_singleton.1 hb]; exact hx a ha⟩
theorem Mrg.left {ps a b ms : List Pt} {i k : Nat} (h : Mrg ps a b ms i k) (ha : SrtL a) (hb : SrtL b) (hi : i < a.length) (hk : b.length ≤ k ∨ ∃ h : k < b.length, leP a[i] b[k]) : Mrg ps a b (ms ++ [a[i]]) (i + 1) k where
  perm := by
    have := h.perm
    rw [List.drop_eq_getElem_cons hi] at this
    rw [List.append_assoc]
    exact this
  srt := h.srt.snoc fun m hm => h.la m hm _ (by rw [List.drop_eq_getElem_cons hi]; exact List.mem_cons_self ..)
  la := fun m hm y hy => by
    rcases List.mem_append.1 hm with hm | hm
    · exact h.la m hm y (by rw [List.drop_eq_getElem_cons hi]; exact List.mem_cons_of_mem _ hy)
    · rw [List.mem_singleton.1 hm]
      have := ha.sublist (List.drop_sublist i a)
      rw [List.drop_eq_getElem_cons hi] at this
      exact (List.pairwise_cons.1 this).1 y hy
  lb := fun m hm y hy => by
    rcases List.mem_append.1 hm with hm | hm
    · exact h.lb m hm y hy
    · rw [List.mem_singleton.1 hm]
      rcases hk with hk | ⟨hk, hle⟩
      · rw [List.drop_eq_nil_of_le hk] at hy; simp at hy
      · rw [List.drop_eq_getElem_cons hk] at hy
        rcases List.mem_cons.1 hy with rfl | hy
        · exact hle
        · have := hb.sublist (List.drop_sublist k b)
          rw [List.drop_eq_getElem_cons hk] at this
          exact leP_tr hle ((List.pairwise_cons.1 this).1 y hy)
theorem Mrg.swap {ps a b ms : List Pt} {i k : Nat} (h : Mrg ps a b ms i k) : Mrg ps b a ms k i where
  perm := (List.Perm.append_left ms List.perm_append_comm).trans h.perm
  srt := h.srt
  la := h.lb
  lb := h.la
theorem Mrg.right {ps a b ms : List Pt} {i k : Nat} (h : Mrg ps a b ms i k) (ha : SrtL a) (hb : SrtL b) (hk : k < b.length) (hi : a.length ≤ i ∨ ∃ h : i < a.length, ¬ leP a[i] b[k]) : Mrg ps a b (ms ++ [b[k]]) i (k + 1) :=
  (h.swap.left hb ha hk (hi.imp id fun ⟨h1, h2⟩ => ⟨h1, leP_flip h2⟩)).swap
theorem half_ok : ∀ (n : Nat) (ps : List Pt) (v : Value) (h : Hp), ps.length ≤ n → n ≤ 1000 → posL h v ps → Ct Tryz.prog 51 [v] h (fun h' r => ∃ qs, posL h' r qs ∧ qs.Perm ps ∧ SrtL qs) := by
  intro n
  induction n using Nat.strongRecOn with
  | _ n ih =>
  intro ps v h hl hn hv
  refine ct51 ?_
  intro w0
  unfold s51
  refine Gs.lenF hv (by omega) ?_
  (repeat (refine G.step ?_))
  refine G.ifd ?_ ?_ <;> intro hlt
  · refine Gs.ret ⟨ps, hv, .refl _, ?_⟩
    match ps, hlt with
    | [], _ => exact List.Pairwise.nil
    | [a], _ => exact List.pairwise_singleton _ _
    | _ :: _ :: _, hlt => simp at hlt; omega
  · refine Gs.lenF hv (by omega) ?_
    refine G.quo (by decide) (by omega) ?_
    rw [tdiv2]
    refine Gs.cutF (lo := none) (hi := some ((ps.length / 2 : Nat) : Int)) hv (by simp [cutLo, cutHi]) (by simp [cutHi]; omega) (fun i h => (by cases h)) (fun i h => by cases h; omega) ?_
    intro va ha
    simp only [cutLo, cutHi, Int.toNat_natCast, List.drop_zero] at ha
    refine Gs.call0 (ih (ps.length / 2) (by omega) _ va h (by rw [List.length_take]; omega) (by omega) ha) ?_
    rintro va' h1 hle1 ⟨qa, ra, pa, sa⟩
    have hv1 := hv.mono hle1
    refine Gs.lenF hv1 (by omega) ?_
    refine G.quo (by decide) (by omega) ?_
    rw [tdiv2]
    refine Gs.cutF (lo := some ((ps.length / 2 : Nat) : Int)) (hi := none) hv1 (by simp [cutLo, cutHi]; omega) (by simp [cutHi]) (fun i h => by cases h; omega) (fun i h => (by cases h)) ?_
    intro vb hb
    simp only [cutLo, cutHi, Int.toNat_natCast, List.take_length] at hb
    refine Gs.call0 (ih (ps.length - ps.length / 2) (by omega) _ vb h1 (by simp) (by omega) hb) ?_
    rintro vb' h2 hle2 ⟨qb, rb, pb, sb⟩
    have ra2 := ra.mono hle2
    have hla : qa.length = ps.length / 2 := by rw [pa.length_eq]; simp; omega
    have hlb : qb.length = ps.length - ps.length / 2 := by rw [pb.length_eq]; simp
    refine Gs.buildSlice (by decide) ?_
    intro q0
    refine Gs.lp (β := Nat × Nat × Value × List PosH × List Pt) (fun u => (u.2.2.1, I u.1, I u.2.1)) (fun _ => h2) (fun u => [.sl u.2.2.1 44 5 (fl ePos u.2.2.2.1)]) (fun u => u.1 ≤ qa.length ∧ u.2.1 ≤ qb.length ∧ u.2.2.2.2.length = u.1 + u.2.1 ∧ All2 (posR h2) u.2.2.2.1 u.2.2.2.2 ∧ Mrg ps qa qb u.2.2.2.2 u.1 u.2.1) (fun u => qa.length + qb.length - u.1 - u.2.1) (0, 0, .slice (some ⟨q0, 0, none⟩) 0 0, [], []) rfl ⟨Nat.zero_le _, Nat.zero_le _, rfl, .nil, ⟨by simpa using (pa.append pb).trans (by rw [List.take_append_drop]), List.Pairwise.nil, fun m hm => by simp at hm, fun m hm => by simp at hm⟩⟩ (fun _ s => s) ?_
    rintro ⟨i, k, q, ys, ms⟩ ⟨hi, hk, hml, hal, hm⟩ cont hc
    dsimp only at *
    have hyl := hal.len
    (repeat (refine G.jk ?_; intro _))
    refine G.jnP (fun j => j = .bool (decide (i < qa.length ∨ k < qb.length))) ?_ ?_
    · rintro j rfl
      refine G.jk ?_; intro _
      refine G.ifd ?_ ?_ <;> intro hlt2
      · refine G.jnP (fun j => j = .bool (decide (qb.length ≤ k ∨ ∃ (h1 : i < qa.length) (h2 : k < qb.length), leP qa[i] qb[k]))) ?_ ?_
        · rintro j rfl
          refine G.jk ?_; intro _
          refine G.ifd ?_ ?_ <;> intro hd
          · have hi' : i < qa.length := by
              rcases hd with hd | ⟨h, _⟩
              · omega
              · exact h
            refine Gs.indexF ra2 hi' ?_
            intro b o x hpt hx
            refine Gs.loadE hpt ?_
            refine Gs.buildSlice (by decide) ?_
            intro q1
            refine Gs.appendO (enc := ePos) (l := ys) (m := [x]) (e2 := 44) (by simp [fl]) (by simp; omega) (by simp; omega) ?_
            intro q2
            (repeat (refine G.add (by omega) ?_))
            exact Gs.goS (hc (i + 1, k, q2, ys ++ [x], ms ++ [qa[i]]) ⟨by dsimp only; omega, hk, by simp [hml]; omega, hal.snoc hx, hm.left sa sb hi' (hd.imp id fun ⟨_, h2, h3⟩ => ⟨h2, h3⟩)⟩ (by dsimp only; omega)) rfl
          · have hk' : k < qb.length := by
              rcases Nat.lt_or_ge k qb.length with h | h
              · exact h
              · exact absurd (.inl h) hd
            refine Gs.indexF rb hk' ?_
            intro b o x hpt hx
            refine Gs.loadE hpt ?_
            refine Gs.buildSlice (by decide) ?_
            intro q1
            refine Gs.appendO (enc := ePos) (l := ys) (m := [x]) (e2 := 44) (by simp [fl]) (by simp; omega) (by simp; omega) ?_
            intro q2
            (repeat (refine G.add (by omega) ?_))
            refine Gs.goS (hc (i, k + 1, q2, ys ++ [x], ms ++ [qb[k]]) ⟨hi, by dsimp only; omega, by simp [hml]; omega, hal.snoc hx, hm.right sa sb hk' ?_⟩ (by dsimp only; omega)) rfl
            rcases Nat.lt_or_ge i qa.length with h | h
            · exact .inr ⟨h, fun hh => hd (.inr ⟨h, hk', hh⟩)⟩
            · exact .inl h
        · intro K hK
          (repeat (refine Gs.dr ?_))
          refine Gs.qlenF rb (by omega) ?_
          (repeat (refine G.qkp ?_))
          refine G.gddf ?_ ?_ <;> intro h1
          · exact hK _ (by rw [decide_eq_true (.inl (by omega))])
          · refine Gs.qlenF ra2 (by omega) ?_
            (repeat (refine G.qkp ?_))
            refine G.gddt ?_ ?_ <;> intro h3
            · have hi' : i < qa.length := by omega
              have hk' : k < qb.length := by omega
              refine Gs.qindexF ra2 hi' ?_
              intro b o x hpt hx
              refine Gs.qloadE hpt ?_
              refine Gs.qindexF rb hk' ?_
              intro b' o' x' hpt' hx'
              refine Gs.qloadE hpt' ?_
              refine Gs.callv0 (rcmpP_ok x x' _ _ h2 hx hx') ?_
              (repeat (refine G.qkp ?_))
              refine hK _ ?_
              congr 1
              rw [decide_eq_decide]
              constructor
              · intro hh; exact .inr ⟨hi', hk', hh⟩
              · rintro (hh | ⟨_, _, hh⟩)
                · omega
                · exact hh
            · refine hK _ ?_
              rw [decide_eq_false]
              rintro (hh | ⟨hh, _, _⟩) <;> omega
      · have hie : i = qa.length := by omega
        have hke : k = qb.length := by omega
        refine Gs.freezeE (v := q) (enc := ePos) (l := ys) (by decide) ?_
        intro h3 hle3 r
        refine Gs.ret ⟨ms, ⟨ys, r, All2.monoR hle3 hal⟩, ?_, hm.srt⟩
        have := hm.perm
        rw [List.drop_eq_nil_of_le (by omega), List.drop_eq_nil_of_le (by omega)] at this
        simpa using this
    · intro K hK
      refine Gs.lenF ra2 (by omega) ?_
      (repeat (refine G.step ?_))
      refine G.gddf ?_ ?_ <;> intro h1
      · exact hK _ (by rw [decide_eq_true (.inl (by omega))])
      · skip
        refine Gs.lenF rb (by omega) ?_
        (repeat (refine G.step ?_))
        exact hK _ (by congr 1; rw [decide_eq_decide]; omega)
theorem rsort_ok (ps : List Pt) (v : Value) (h : Hp) (hv : posL h v ps) (hn : ps.length ≤ 1000) : Ct Tryz.prog 21 [v] h (fun h' r => posL h' r (sortU cmpP ps)) := by
  refine ct21 ?_
  intro w0
  unfold s21
  refine Gs.call0 (half_ok _ ps v h (Nat.le_refl _) hn hv) ?_
  rintro v1 h1 hle1 ⟨qs, r1, p1, s1⟩
  have hql : qs.length ≤ 1000 := by rw [p1.length_eq]; exact hn
  have hfin : compactL (fun p q : Pt => decide (p = q)) qs = sortU cmpP ps := compact_sortU lin_cmpP _ (fun x y => decide_eq_true_iff) (s1.imp fun {a b} hab => by have := lin_cmpP.neg a b; unfold leP at hab; omega) fun z => p1.mem_iff
  refine Gs.buildSlice (by decide) ?_
  intro q0
  refine Gs.lp (β := Nat × Value × List PosH) (fun u => (u.2.1, I u.1)) (fun _ => h1) (fun u => [.sl u.2.1 44 5 (fl ePos u.2.2)]) (fun u => u.1 ≤ qs.length ∧ All2 (posR h1) u.2.2 (compactL (fun p q : Pt => decide (p = q)) (qs.take u.1))) (fun u => qs.length - u.1) (0, .slice (some ⟨q0, 0, none⟩) 0 0, []) rfl ⟨Nat.zero_le _, .nil⟩ (fun _ s => s) ?_
  rintro ⟨i, q, ys⟩ ⟨hi, hal⟩ cont hc
  dsimp only at *
  have hyl := hal.len
  have hcl := compactL_len (fun p q : Pt => decide (p = q)) (qs.take i)
  rw [List.length_take] at hcl
  (repeat (refine G.jk ?_; intro _))
  refine Gs.lenF r1 (by omega) ?_
  (repeat (refine G.step ?_))
  refine G.ifd ?_ ?_ <;> intro hlt
  · have h1' : i < qs.length := by omega
    refine G.jnk (fun a S' => ∃ ys', All2 (posR h1) ys' (compactL (fun p q : Pt => decide (p = q)) (qs.take (i + 1))) ∧ S' = St w0 h h1 [.sl a 44 5 (fl ePos ys')]) ?_ ?_
    · rintro a _ ⟨ys', hal', rfl⟩
      refine G.jk ?_; intro _
      (repeat (refine G.add (by omega) ?_))
      exact Gs.goS (hc (i + 1, a, ys') ⟨by dsimp only; omega, hal'⟩ (by dsimp only; omega)) rfl
    · intro k' hk'
      refine G.jnP (fun j => j = .bool (decide (i = 0 ∨ ∃ h : i - 1 < qs.length, qs[i] ≠ qs[i - 1]))) ?_ ?_
      · rintro j rfl
        refine G.jk ?_; intro _
        refine G.ifd ?_ ?_ <;> intro hd
        · refine Gs.indexF r1 h1' ?_
          intro b o x hpt hx
          refine Gs.loadE hpt ?_
          refine Gs.buildSlice (by decide) ?_
          intro q1
          refine Gs.appendO (enc := ePos) (l := ys) (m := [x]) (e2 := 44) (by simp [fl]) (by simp; omega) (by simp; omega) ?_
          intro q2
          refine Gs.sel (L' := [.sl q2 44 5 (fl ePos (ys ++ [x]))]) ?_
          refine hk' _ _ ⟨ys ++ [x], ?_, rfl⟩
          rcases Nat.eq_zero_or_pos i with h0 | h0
          · subst h0
            have e : ys = [] := by
              have := hal.len
              simp [compactL] at this
              exact this
            subst e
            rw [← List.take_append_getElem h1']
            simp only [List.take_zero, List.nil_append, compactL, cl]
            exact .cons hx .nil
          · rw [compactL_take _ _ _ h0 h1', if_neg]
            · exact hal.snoc hx
            · rcases hd with hd | ⟨_, hd⟩
              · omega
              · simpa using hd
        · refine hk' _ _ ⟨ys, ?_, rfl⟩
          have h0 : 0 < i := by
            rcases Nat.eq_zero_or_pos i with h0 | h0
            · exact absurd (.inl h0) hd
            · exact h0
          rw [compactL_take _ _ _ h0 h1', if_pos, List.append_nil]
          · exact hal
          · refine decide_eq_true ?_
            refine Classical.byContradiction fun hne => hd (.inr ⟨by omega, hne⟩)
      · intro K hK
        (repeat (first | refine Gs.dr ?_ | refine G.qkp ?_))
        refine G.gddf ?_ ?_ <;> intro h0
        · exact hK _ (by rw [decide_eq_true (.inl (by omega))])
        · have h2 : i - 1 < qs.length := by omega
          refine Gs.qindexF r1 h1' ?_
          intro b o x hpt hx
          refine Gs.qloadE hpt ?_
          (repeat (refine G.qsub (by omega) ?_))
          rw [show (i : Int) - 1 = ((i - 1 : Nat) : Int) by omega]
          refine Gs.qindexF r1 h2 ?_
          intro b' o' x' hpt' hx'
          refine Gs.qloadE hpt' ?_
          refine Gs.callv0 (rsame_ok x x' _ _ h1 hx hx') ?_
          (repeat (refine G.qkp ?_))
          refine hK _ ?_
          rw [← decide_not]
          congr 1
          rw [decide_eq_decide]
          constructor
          · intro hh; exact .inr ⟨h2, hh⟩
          · rintro (hh | ⟨_, hh⟩)
            · omega
            · exact hh
  · refine Gs.freezeE (v := q) (enc := ePos) (l := ys) (by decide) ?_
    intro h2 hle2 r
    refine Gs.ret ⟨ys, r, ?_⟩
    rw [← hfin]
    rw [List.take_of_length_le (by omega)] at hal
    exact All2.monoR hle2 hal
end Go.Proofs.YtcmokdokcghooaaGreatDoor
end

section
set_option linter.unusedVariables false
set_option maxHeartbeats 2000000
namespace Go.Proofs.YtcmokdokcghooaaGreatDoor
open Go Go.Sk Go.Pr Go.Ps Go.RowKit
variable {w0 : World} {h0 h : Hp} {L : List Itm} {K : Value → WP}
def gS : Gm := ⟨2, [[1, -1]], [0], [⟨nameA, [], false⟩], 2, false, [], 3, 2⟩
def pS : Pt := ⟨[1, 0], [0], [0], 2, 1⟩
def qS : Pt := ⟨[2, 1], [0], [0], 3, 0⟩
theorem goodS : GoodG gS where
  b := by
    refine ⟨by decide, by decide, by decide, by decide, by decide, by decide, ?_, ?_, ?_⟩
    · intro l hl c hc
      have e : l = [1, -1] := by simpa [gS] using hl
      subst e
      have e : c = 1 ∨ c = -1 := by simpa using hc
      rcases e with rfl | rfl <;> decide
    · intro d hd
      have : d = 0 := by have : d < 1 := hd; omega
      subst this
      exact (by decide : (0:Int) ≤ 0 ∧ (0:Int) < ((1:Nat):Int))
    · intro d hd
      have : d = 0 := by have : d < 1 := hd; omega
      subst this
      rfl
  k := by
    refine ⟨by decide, by decide, ?_, ?_, ?_⟩
    · intro i hi
      have : i = 0 := by have : i < 1 := hi; omega
      subst this
      rfl
    · intro k hk
      have e : k = ⟨nameA, [], false⟩ := by simpa [gS] using hk
      subst e
      simp
    · intro k hk p hp
      have e : k = ⟨nameA, [], false⟩ := by simpa [gS] using hk
      subst e
      simp at hp
  r := by decide
  cl := by decide
  cr := fun c hc => by simp [gS] at hc
  bl := by unfold isRes gS; decide
  en := by unfold isRes gS; decide
theorem pS_ok : ValidS gS pS := validP_iff.1 (by decide)
theorem qS_ok : ValidS gS qS := validP_iff.1 (by decide)
theorem pS_t : txt pS = [65, 46, 47, 48, 47, 48, 47, 50, 47, 49] := by decide
theorem qS_t : txt qS = [97, 65, 47, 48, 47, 48, 47, 51, 47, 48] := by decide
theorem parse1 {q : Pt} {e : Int} (h : ParseR gS [65, 46, 47, 48, 47, 48, 47, 48, 50, 47, 49] q e) : e = 3 := by
  rcases h with ⟨_, hv, ht⟩ | ⟨rfl, _⟩
  · have h1 := txt_len q
    obtain ⟨z1, z2, z3⟩ := hv.lens
    rw [ht, z1, z2, z3] at h1
    exact absurd h1 (by decide)
  · rfl
theorem parse2 {q : Pt} {e : Int} (h : ParseR gS [65, 46, 47, 49, 47, 48, 47, 50, 47, 49] q e) : e = 3 := by
  rcases h with ⟨_, hv, ht⟩ | ⟨rfl, _⟩
  · have h1 := atP_txt hv (by decide) (by decide)
    rw [ht] at h1
    have h2 := hv.ha
    rw [← h1] at h2
    exact absurd h2 (by decide)
  · rfl
theorem parse3 {q : Pt} {e : Int} (h : ParseR gS [97, 65, 47, 48, 47, 48, 47, 51, 47, 48] q e) : e = 0 ∧ q = qS := by
  rcases h with ⟨rfl, hv, ht⟩ | ⟨_, _, hno⟩
  · exact ⟨rfl, txt_inj (hv.ok (by decide) (by decide)) (qS_ok.ok (by decide) (by decide)) (ht.trans qS_t.symm)⟩
  · exact absurd qS_t (hno qS qS_ok)
theorem gS_v (x : GmH) : vGm gS x = .agg #[I 2, slv x.1, slv x.2.1, slv x.2.2.1, I 2, .bool false, slv x.2.2.2, I 3, I 2] := rfl
theorem parseS (A B C : SlH) (s : List UInt8) (h : Hp) (hE : Env h) (hg : gmR h (A, B, C, (none, 0, 0)) gS) (hs : s.length ≤ 1000) : Ct Tryz.prog 16 [.agg #[I 2, slv A, slv B, slv C, I 2, .bool false, .slice none 0 0, I 3, I 2], Str s] h (ParsePost gS s) := by
  have := parse_ok gS _ s h hE hg goodS hs
  rw [gS_v] at this
  exact this
theorem pvalidS (A B C : SlH) (y : PosH) (p : Pt) (h : Hp) (hg : gmR h (A, B, C, (none, 0, 0)) gS) (hp : posR h y p) : Ct Tryz.prog 19 [.agg #[I 2, slv A, slv B, slv C, I 2, .bool false, .slice none 0 0, I 3, I 2], vPos y] h (fun _ r => r = .bool (validP gS p)) := by
  have := pvalid_ok gS _ y p h hg (by decide) (by decide) (by decide) hp
  rw [gS_v] at this
  exact this
theorem pcountS (A B C : SlH) (y : PosH) (h : Hp) (hg : gmR h (A, B, C, (none, 0, 0)) gS) (hp : posR h y qS) : Ct Tryz.prog 33 [.agg #[I 2, slv A, slv B, slv C, I 2, .bool false, .slice none 0 0, I 3, I 2], vPos y, I 1] h (fun h' r => RdE h' r eInt 1 [1]) := by
  have := pcount_ok gS _ y qS 1 h hg (by decide) hp (by decide)
  rw [gS_v, show counts qS.c gS.kinds.length 1 = [1] by decide] at this
  exact this
theorem smS : smallP pS ∧ smallP qS := by unfold smallP pS qS; decide
theorem printS (A B C : SlH) (y : PosH) (h : Hp) (hE : Env h) (hp : posR h y pS) : Ct Tryz.prog 31 [.agg #[I 2, slv A, slv B, slv C, I 2, .bool false, .slice none 0 0, I 3, I 2], vPos y] h (fun _ r => r = Str [65, 46, 47, 48, 47, 48, 47, 50, 47, 49]) := by
  have := print_ok (A, B, C, (none, 0, 0)) gS y pS h hE hp smS.1 (by decide) (pS_ok.ok (by decide) (by decide))
  rw [gS_v, pS_t] at this
  exact this
theorem sanity_ok (h : Hp) (hE : Env h) : Ct Tryz.prog 12 [] h (fun _ v => v = .bool true) := by
  refine ct12 ?_
  intro w0
  unfold s12
  skip
  refine Gs.buildSlice (by decide) ?_
  intro q1
  refine Gs.freezeE (v := .slice (some ⟨q1, 0, none⟩) 2 2) (enc := eInt) (l := [1, -1]) (by decide) ?_
  intro h1 le1 r1
  generalize Value.slice (some ⟨q1, 0, none⟩) 2 2 = v1 at *
  obtain ⟨A1, rfl⟩ := r1.hdr
  have hE := hE.mono le1
  skip
  refine Gs.buildSlice (by decide) ?_
  intro q2
  refine Gs.freezeE (v := .slice (some ⟨q2, 0, none⟩) 1 1) (enc := eSlH) (l := [A1]) (by decide) ?_
  intro h2 le2 r2
  generalize Value.slice (some ⟨q2, 0, none⟩) 1 1 = v2 at *
  obtain ⟨A2, rfl⟩ := r2.hdr
  have r1 := r1.mono le2
  have hE := hE.mono le2
  skip
  refine Gs.buildSlice (by decide) ?_
  intro q3
  refine Gs.freezeE (v := .slice (some ⟨q3, 0, none⟩) 1 1) (enc := eInt) (l := [0]) (by decide) ?_
  intro h3 le3 r3
  generalize Value.slice (some ⟨q3, 0, none⟩) 1 1 = v3 at *
  obtain ⟨A3, rfl⟩ := r3.hdr
  have r1 := r1.mono le3
  have r2 := r2.mono le3
  have hE := hE.mono le3
  (repeat (first | refine G.step ?_ | (refine Gs.alloc ?_; intro _) | refine Gs.store ?_))
  refine Gs.buildSlice (by decide) ?_
  intro q4
  refine Gs.freezeE (v := .slice (some ⟨q4, 0, none⟩) 1 1) (enc := eKd) (l := [(nameA, (none, 0, 0), false)]) (by decide) ?_
  intro h4 le4 r4
  generalize Value.slice (some ⟨q4, 0, none⟩) 1 1 = v4 at *
  obtain ⟨A4, rfl⟩ := r4.hdr
  have r1 := r1.mono le4
  have r2 := r2.mono le4
  have r3 := r3.mono le4
  have hE := hE.mono le4
  (repeat (first | refine G.step ?_ | (refine Gs.alloc ?_; intro _) | refine Gs.store ?_))
  refine Gs.buildSlice (by decide) ?_
  intro q5
  refine Gs.freezeE (v := .slice (some ⟨q5, 0, none⟩) 2 2) (enc := eInt) (l := [1, 0]) (by decide) ?_
  intro h5 le5 r5
  generalize Value.slice (some ⟨q5, 0, none⟩) 2 2 = v5 at *
  obtain ⟨A5, rfl⟩ := r5.hdr
  have r1 := r1.mono le5
  have r2 := r2.mono le5
  have r3 := r3.mono le5
  have r4 := r4.mono le5
  have hE := hE.mono le5
  skip
  refine Gs.buildSlice (by decide) ?_
  intro q6
  refine Gs.freezeE (v := .slice (some ⟨q6, 0, none⟩) 1 1) (enc := eInt) (l := [0]) (by decide) ?_
  intro h6 le6 r6
  generalize Value.slice (some ⟨q6, 0, none⟩) 1 1 = v6 at *
  obtain ⟨A6, rfl⟩ := r6.hdr
  have r1 := r1.mono le6
  have r2 := r2.mono le6
  have r3 := r3.mono le6
  have r4 := r4.mono le6
  have r5 := r5.mono le6
  have hE := hE.mono le6
  skip
  refine Gs.buildSlice (by decide) ?_
  intro q7
  refine Gs.freezeE (v := .slice (some ⟨q7, 0, none⟩) 1 1) (enc := eInt) (l := [0]) (by decide) ?_
  intro h7 le7 r7
  generalize Value.slice (some ⟨q7, 0, none⟩) 1 1 = v7 at *
  obtain ⟨A7, rfl⟩ := r7.hdr
  have r1 := r1.mono le7
  have r2 := r2.mono le7
  have r3 := r3.mono le7
  have r4 := r4.mono le7
  have r5 := r5.mono le7
  have r6 := r6.mono le7
  have hE := hE.mono le7
  (repeat (first | refine G.step ?_ | refine G.buildA (by rfl) ?_ | (refine Gs.alloc ?_; intro _) | refine Gs.store ?_))
  refine Gs.buildSlice (by decide) ?_
  intro q8
  refine Gs.freezeE (v := .slice (some ⟨q8, 0, none⟩) 2 2) (enc := eInt) (l := [2, 1]) (by decide) ?_
  intro h8 le8 r8
  generalize Value.slice (some ⟨q8, 0, none⟩) 2 2 = v8 at *
  obtain ⟨A8, rfl⟩ := r8.hdr
  have r1 := r1.mono le8
  have r2 := r2.mono le8
  have r3 := r3.mono le8
  have r4 := r4.mono le8
  have r5 := r5.mono le8
  have r6 := r6.mono le8
  have r7 := r7.mono le8
  have hE := hE.mono le8
  skip
  refine Gs.buildSlice (by decide) ?_
  intro q9
  refine Gs.freezeE (v := .slice (some ⟨q9, 0, none⟩) 1 1) (enc := eInt) (l := [0]) (by decide) ?_
  intro h9 le9 r9
  generalize Value.slice (some ⟨q9, 0, none⟩) 1 1 = v9 at *
  obtain ⟨A9, rfl⟩ := r9.hdr
  have r1 := r1.mono le9
  have r2 := r2.mono le9
  have r3 := r3.mono le9
  have r4 := r4.mono le9
  have r5 := r5.mono le9
  have r6 := r6.mono le9
  have r7 := r7.mono le9
  have r8 := r8.mono le9
  have hE := hE.mono le9
  skip
  refine Gs.buildSlice (by decide) ?_
  intro q10
  refine Gs.freezeE (v := .slice (some ⟨q10, 0, none⟩) 1 1) (enc := eInt) (l := [0]) (by decide) ?_
  intro h10 le10 r10
  generalize Value.slice (some ⟨q10, 0, none⟩) 1 1 = v10 at *
  obtain ⟨A10, rfl⟩ := r10.hdr
  have r1 := r1.mono le10
  have r2 := r2.mono le10
  have r3 := r3.mono le10
  have r4 := r4.mono le10
  have r5 := r5.mono le10
  have r6 := r6.mono le10
  have r7 := r7.mono le10
  have r8 := r8.mono le10
  have r9 := r9.mono le10
  have hE := hE.mono le10
  have hg : gmR h10 (A2, A3, A4, (none, 0, 0)) gS := ⟨⟨_, r2, .cons r1 .nil⟩, r3, ⟨_, r4, .cons ⟨rfl, RdF.nil _ _ _ _, rfl⟩ .nil⟩, RdE.nil _ _ _⟩
  have hp : posR h10 (A5, A6, A7, 2, 1) pS := ⟨r5, r6, r7, rfl, rfl, by decide, by decide, by decide⟩
  have hq : posR h10 (A8, A9, A10, 3, 0) qS := ⟨r8, r9, r10, rfl, rfl, by decide, by decide, by decide⟩
  clear r1 r2 r3 r4 r5 r6 r7 r8 r9 r10
  (repeat (first | refine G.step ?_ | refine G.buildA (by rfl) ?_ | (refine Gs.alloc ?_; intro _) | refine Gs.store ?_))
  refine Gs.call0 (parseS A2 A3 A4 [65, 46, 47, 48, 47, 48, 47, 48, 50, 47, 49] h10 hE hg (by decide)) ?_
  rintro _ h11 le11 ⟨y1, p1, e1, rfl, hp1, hr1⟩
  obtain rfl := parse1 hr1
  have hE := hE.mono le11
  have hg := hg.mono le11
  have hp := hp.mono le11
  have hq := hq.mono le11
  (repeat (first | refine G.step ?_ | (refine Gs.alloc ?_; intro _) | refine Gs.store ?_))
  refine Gs.call0 (parseS A2 A3 A4 [65, 46, 47, 49, 47, 48, 47, 50, 47, 49] h11 hE hg (by decide)) ?_
  rintro _ h12 le12 ⟨y2, p2, e2, rfl, hp2, hr2⟩
  obtain rfl := parse2 hr2
  have hE := hE.mono le12
  have hg := hg.mono le12
  have hp := hp.mono le12
  have hq := hq.mono le12
  (repeat (first | refine G.step ?_ | (refine Gs.alloc ?_; intro _) | refine Gs.store ?_))
  refine Gs.call0 (parseS A2 A3 A4 [97, 65, 47, 48, 47, 48, 47, 51, 47, 48] h12 hE hg (by decide)) ?_
  rintro _ h13 le13 ⟨y3, p3, e3, rfl, hp3, hr3⟩
  obtain ⟨rfl, rfl⟩ := parse3 hr3
  have hE := hE.mono le13
  have hg := hg.mono le13
  have hp := hp.mono le13
  have hq := hq.mono le13
  (repeat (first | refine G.step ?_ | (refine Gs.alloc ?_; intro _) | refine Gs.store ?_))
  refine Gs.buildSlice (by decide) ?_
  intro q11
  refine Gs.freezeE (v := .slice (some ⟨q11, 0, none⟩) 3 3) (enc := ePos) (l := [(A8, A9, A10, (3 : Int), (0 : Int)), (A5, A6, A7, (2 : Int), (1 : Int)), (A8, A9, A10, (3 : Int), (0 : Int))]) (by decide) ?_
  intro h14 le14 r14
  have hE := hE.mono le14
  have hg := hg.mono le14
  have hp := hp.mono le14
  have hq := hq.mono le14
  have hp3 := hp3.mono le14
  refine Gs.call0 (sort_ok [qS, pS, qS] _ h14 ⟨_, r14, .cons hq (.cons hp (.cons hq .nil))⟩ (by decide)) ?_
  intro v15 h15 le15 r15
  rw [show sortU cmpP [qS, pS, qS] = [pS, qS] by decide] at r15
  have hE := hE.mono le15
  have hg := hg.mono le15
  have hp := hp.mono le15
  have hq := hq.mono le15
  have hp3 := hp3.mono le15
  refine G.jnP (fun j => j = .bool true) ?_ ?_
  · rintro j rfl
    refine G.jk ?_; intro _
    (repeat (first | refine G.step ?_ | refine G.gdtt ?_))
    refine Gs.buildSlice (by decide) ?_
    intro q16
    refine Gs.freezeE (v := .slice (some ⟨q16, 0, none⟩) 2 2) (enc := ePos) (l := [(A5, A6, A7, (2 : Int), (1 : Int)), (A8, A9, A10, (3 : Int), (0 : Int))]) (by decide) ?_
    intro h16 le16 r16
    have hE := hE.mono le16
    have hg := hg.mono le16
    have hp := hp.mono le16
    have hq := hq.mono le16
    have r15 : posL h16 v15 [pS, qS] := RdF.mono le16 r15
    have r16' : posL h16 _ [pS, qS] := ⟨_, r16, .cons hp (.cons hq .nil)⟩
    refine Gs.callv0 (lists_ok _ _ _ _ h16 r15 r16' (by decide) (by decide)) ?_
    (repeat (first | refine G.step ?_ | refine G.gdtt ?_))
    refine Gs.buildSlice (by decide) ?_
    intro q17
    refine Gs.freezeE (v := .slice (some ⟨q17, 0, none⟩) 2 2) (enc := ePos) (l := [(A5, A6, A7, (2 : Int), (1 : Int)), (A8, A9, A10, (3 : Int), (0 : Int))]) (by decide) ?_
    intro h17 le17 r17
    have hE := hE.mono le17
    have hg := hg.mono le17
    have hp := hp.mono le17
    have hq := hq.mono le17
    (repeat (refine G.step ?_))
    refine Gs.call0 (find3_ok [pS, qS] _ (A8, A9, A10, 3, 0) qS h17 ⟨_, r17, .cons hp (.cons hq .nil)⟩ (by decide) hq (by unfold Srt; decide)) ?_
    rintro _ h18 le18 ⟨n, rfl, hn⟩
    obtain rfl : n = 1 := hn.uniq (l := [pS, qS]) (by unfold Srt; decide) (.inl ⟨1, by decide, rfl, rfl⟩)
    have hg := hg.mono le18
    have hp := hp.mono le18
    have hq := hq.mono le18
    (repeat (first | refine G.step ?_ | refine G.gdtt ?_))
    refine Gs.buildSlice (by decide) ?_
    intro q19
    refine Gs.freezeE (v := .slice (some ⟨q19, 0, none⟩) 1 1) (enc := ePos) (l := [(A5, A6, A7, (2 : Int), (1 : Int))]) (by decide) ?_
    intro h19 le19 r19
    have hg := hg.mono le19
    have hp := hp.mono le19
    have hq := hq.mono le19
    (repeat (refine G.step ?_))
    refine Gs.call0 (find3_ok [pS] _ (A8, A9, A10, 3, 0) qS h19 ⟨_, r19, .cons hp .nil⟩ (by decide) hq (by unfold Srt; decide)) ?_
    rintro _ h20 le20 ⟨n, rfl, hn⟩
    obtain rfl : n = -1 := hn.uniq (l := [pS]) (by unfold Srt; decide) (.inr ⟨rfl, by decide⟩)
    have hg := hg.mono le20
    have hp := hp.mono le20
    have hq := hq.mono le20
    (repeat (first | refine G.step ?_ | refine G.gdtt ?_))
    refine Gs.callv0 (cmpP_ok (A5, A6, A7, 2, 1) (A8, A9, A10, 3, 0) pS qS h20 hp hq) ?_
    rw [show cmpP pS qS = -1 by decide]
    (repeat (first | refine G.step ?_ | refine G.gdtt ?_))
    refine Gs.callv0 (pvalidS A2 A3 A4 (A5, A6, A7, 2, 1) pS h20 hg hp) ?_
    rw [show validP gS pS = true by decide]
    (repeat (first | refine G.step ?_ | refine G.gdtt ?_))
    refine Gs.callv0 (pvalidS A2 A3 A4 ((none, 0, 0), (none, 0, 0), (none, 0, 0), 0, 0) zeroP h20 hg (posR_zero _)) ?_
    rw [show validP gS zeroP = false by decide]
    (repeat (first | refine G.step ?_ | refine G.gdtt ?_))
    refine Gs.call0 (pcountS A2 A3 A4 (A8, A9, A10, 3, 0) h20 hg hq) ?_
    intro v21 h21 le21 r21
    refine Gs.buildSlice (by decide) ?_
    intro q22
    refine Gs.freezeE (v := .slice (some ⟨q22, 0, none⟩) 1 1) (enc := eInt) (l := [1]) (by decide) ?_
    intro h22 le22 r22
    refine Gs.callv0 (ints_ok [1] [1] _ _ h22 (r21.mono le22) r22 (by decide) (by decide)) ?_
    exact Gs.ret (by rw [decide_eq_true rfl])
  · intro K hK
    (repeat (refine G.step ?_))
    refine Gs.callv0 (printS A2 A3 A4 (A5, A6, A7, 2, 1) h15 hE hp) ?_
    (repeat (first | refine G.step ?_ | refine G.gdtt ?_))
    refine Gs.callv0 (key_ok (A5, A6, A7, 2, 1) pS h15 hp smS.1) ?_
    rw [show keyP pS = [1, 0, 0, 0, 2, 1] by decide]
    (repeat (first | refine G.step ?_ | refine G.gdtt ?_))
    refine Gs.callv0 (rsame_ok y3 (A8, A9, A10, 3, 0) qS qS h15 hp3 hq) ?_
    exact hK _ (by rw [decide_eq_true rfl])
end Go.Proofs.YtcmokdokcghooaaGreatDoor
end

