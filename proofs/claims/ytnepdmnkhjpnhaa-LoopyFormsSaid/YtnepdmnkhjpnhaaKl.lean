/-
  Lemmas for the proof of the statement of this claim: a part of the road, no statement of its own. Conditions: those that each lemma names.
-/
import Derived.Test.YtnepdmnkhjpnhaaKz
section
/-
  Loopy games, plainly: spots, moves, who wins; what the solving by counters keeps.
-/
set_option linter.unusedVariables false
set_option linter.unusedSimpArgs false
set_option linter.unusedSectionVars false
namespace Go.Lp
abbrev Sp := Int × Int × Int
structure Gr where
  L : List (List Int)
  R : List (List Int)
def opts (g : Gr) (s : Sp) : List Int := ((if s.2.2 = 1 then g.R else g.L)[s.1.toNat]?).getD []
def stp (s : Sp) : Int := if s.2.2 = 1 then -1 else 1
def mv (g : Gr) (s : Sp) : List Sp :=
  (opts g s).map (fun m => (m, s.2.1, 1 - s.2.2)) ++ (if 0 < s.2.1 * stp s then [(s.1, s.2.1 - stp s, 1 - s.2.2)] else [])
structure GV (g : Gr) : Prop where
  l0 : 1 ≤ g.L.length
  l1 : g.L.length ≤ 32
  lr : g.R.length = g.L.length
  ol : ∀ l ∈ g.L, l.length ≤ 32 ∧ ∀ i ∈ l, 0 ≤ i ∧ i < g.L.length
  or : ∀ l ∈ g.R, l.length ≤ 32 ∧ ∀ i ∈ l, 0 ≤ i ∧ i < g.L.length
/-- A spot with at most n free moves. -/
def SN (g : Gr) (n : Nat) (s : Sp) : Prop := 0 ≤ s.1 ∧ s.1 < g.L.length ∧ -(n : Int) ≤ s.2.1 ∧ s.2.1 ≤ n ∧ (s.2.2 = 0 ∨ s.2.2 = 1)
instance {g : Gr} {n : Nat} {s : Sp} : Decidable (SN g n s) := by unfold SN; infer_instance
theorem opts_mem {g : Gr} (hg : GV g) {s : Sp} (hs : 0 ≤ s.1 ∧ s.1 < g.L.length) : (opts g s).length ≤ 32 ∧ ∀ i ∈ opts g s, 0 ≤ i ∧ i < g.L.length := by
  unfold opts
  have h0 : s.1.toNat < g.L.length := by omega
  have h1 : s.1.toNat < g.R.length := by have := hg.lr; omega
  split
  · rw [List.getElem?_eq_getElem h1]
    exact hg.or _ (List.getElem_mem h1)
  · rw [List.getElem?_eq_getElem h0]
    exact hg.ol _ (List.getElem_mem h0)
theorem mv_mem {g : Gr} {s m : Sp} : m ∈ mv g s ↔ (∃ i ∈ opts g s, m = (i, s.2.1, 1 - s.2.2)) ∨ (0 < s.2.1 * stp s ∧ m = (s.1, s.2.1 - stp s, 1 - s.2.2)) := by
  unfold mv
  rw [List.mem_append, List.mem_map]
  constructor
  · rintro (⟨i, h1, rfl⟩ | h)
    · exact .inl ⟨i, h1, rfl⟩
    · split at h
      · exact .inr ⟨‹_›, by simpa using h⟩
      · cases h
  · rintro (⟨i, h1, rfl⟩ | ⟨h, rfl⟩)
    · exact .inl ⟨i, h1, rfl⟩
    · exact .inr (by rw [if_pos h]; simp)
theorem mv_SN {g : Gr} (hg : GV g) {n : Nat} {s m : Sp} (hs : SN g n s) (hm : m ∈ mv g s) : SN g n m := by
  obtain ⟨h1, h2, h3, h4, h5⟩ := hs
  have ho := opts_mem hg ⟨h1, h2⟩
  rcases mv_mem.1 hm with ⟨i, hi, rfl⟩ | ⟨hp, rfl⟩
  · have := ho.2 i hi
    exact ⟨this.1, this.2, h3, h4, by dsimp only; omega⟩
  · unfold stp at hp ⊢
    refine ⟨h1, h2, ?_, ?_, by dsimp only; omega⟩
    · dsimp only
      split <;> simp_all <;> omega
    · dsimp only
      split <;> simp_all <;> omega
theorem mv_len {g : Gr} (hg : GV g) {s : Sp} (hs : 0 ≤ s.1 ∧ s.1 < g.L.length) : (mv g s).length ≤ 33 := by
  have := (opts_mem hg hs).1
  unfold mv
  rw [List.length_append, List.length_map]
  split <;> simp <;> omega
/-- Decided spots: 1 the side whose turn it is wins, 3 it loses. -/
inductive Out (g : Gr) : Int → Sp → Prop
  | win {s m : Sp} : m ∈ mv g s → Out g 3 m → Out g 1 s
  | loss {s : Sp} : (∀ m ∈ mv g s, Out g 1 m) → Out g 3 s
theorem Out.val {g : Gr} {r : Int} {s : Sp} (h : Out g r s) : r = 1 ∨ r = 3 := by cases h <;> simp
theorem Out.uniq {g : Gr} {r : Int} {s : Sp} (h : Out g r s) : ∀ r', Out g r' s → r' = r := by
  induction h with
  | win hm h ih =>
    intro r' h'
    cases h' with
    | win => rfl
    | loss hl => have := ih 1 (hl _ hm); omega
  | loss hl ih =>
    intro r' h'
    cases h' with
    | win hm h => have := ih _ hm 3 h; omega
    | loss => rfl
open Classical in
/-- The result for the side whose turn it is; 0: not decided. -/
noncomputable def res (g : Gr) (s : Sp) : Int := if Out g 1 s then 1 else if Out g 3 s then 3 else 0
theorem res_of {g : Gr} {r : Int} {s : Sp} (h : Out g r s) : res g s = r := by
  unfold res
  rcases h.val with rfl | rfl
  · rw [if_pos h]
  · rw [if_neg fun h' => by have := h.uniq 1 h'; omega, if_pos h]
theorem res_cases (g : Gr) (s : Sp) : (res g s = 1 ∧ Out g 1 s) ∨ (res g s = 3 ∧ Out g 3 s) ∨ (res g s = 0 ∧ ¬ Out g 1 s ∧ ¬ Out g 3 s) := by
  unfold res
  by_cases h1 : Out g 1 s
  · simp [h1]
  · by_cases h3 : Out g 3 s <;> simp [h1, h3]
theorem res_iff {g : Gr} {r : Int} {s : Sp} (hr : r ≠ 0) : res g s = r ↔ Out g r s := ⟨fun h => by
  rcases res_cases g s with ⟨h1, h2⟩ | ⟨h1, h2⟩ | ⟨h1, _⟩
  · rw [← h, h1]; exact h2
  · rw [← h, h1]; exact h2
  · omega, res_of⟩
/-- For Left. -/
noncomputable def left (g : Gr) (s : Sp) : Int := if res g s = 0 then 2 else if s.2.2 = 1 then 4 - res g s else res g s
theorem left_cases (g : Gr) (s : Sp) : left g s = 1 ∨ left g s = 2 ∨ left g s = 3 := by
  unfold left
  rcases res_cases g s with ⟨h1, _⟩ | ⟨h1, _⟩ | ⟨h1, _⟩ <;> rw [h1] <;> simp <;> omega

/-! ### Solving by counters -/
def upd (f : Sp → Int) (s : Sp) (v : Int) : Sp → Int := fun t => if t = s then v else f t
/-- Behind s's round: all that is said of a spot b when the moves outside Pd are counted. -/
structure Inv (g : Gr) (U : Sp → Prop) (lf out : Sp → Int) (work Pd : List Sp) : Prop where
  sound : ∀ s, out s ≠ 0 → U s ∧ Out g (out s) s
  dec : ∀ s, out s ≠ 0 ↔ s ∈ Pd ++ work
  nodup : (Pd ++ work).Nodup
  cnt : ∀ b, U b → lf b = ((mv g b).countP fun m => decide (m ∉ Pd))
  win : ∀ b, U b → (∃ m ∈ mv g b, m ∈ Pd ∧ out m = 3) → out b ≠ 0
  all : ∀ b, U b → (∀ m ∈ mv g b, m ∈ Pd) → out b ≠ 0
structure InvIn (g : Gr) (U : Sp → Prop) (lf out : Sp → Int) (work Pd : List Sp) (s : Sp) (ds : List Sp) : Prop where
  sound : ∀ s, out s ≠ 0 → U s ∧ Out g (out s) s
  dec : ∀ t, out t ≠ 0 ↔ t ∈ Pd ++ s :: work
  nodup : (Pd ++ s :: work).Nodup
  cnt : ∀ b, U b → lf b = ((mv g b).countP fun m => decide (m ∉ Pd)) - ds.count b
  win : ∀ b, U b → (∃ m ∈ mv g b, m ∈ Pd ∧ out m = 3) → out b ≠ 0
  all : ∀ b, U b → (∀ m ∈ mv g b, m ∈ Pd) → out b ≠ 0
  w1 : out s = 3 → ∀ b ∈ ds, out b ≠ 0
  a1 : out s = 1 → ∀ b ∈ ds, lf b = 0 → out b ≠ 0
theorem Inv.into {g : Gr} {U : Sp → Prop} {lf out : Sp → Int} {work Pd : List Sp} {s : Sp} (h : Inv g U lf out (s :: work) Pd) : InvIn g U lf out work Pd s [] :=
  ⟨h.sound, h.dec, h.nodup, fun b hb => by rw [h.cnt b hb]; simp, h.win, h.all, fun _ b hb => ((by cases hb)), fun _ b hb => ((by cases hb))⟩
theorem countP_split {l Pd : List Sp} {s : Sp} (hs : s ∉ Pd) : (l.countP fun m => decide (m ∉ Pd)) = (l.countP fun m => decide (m ∉ Pd ++ [s])) + l.count s := by
  induction l with
  | nil => rfl
  | cons m l ih =>
    rw [List.countP_cons, List.countP_cons, List.count_cons, ih]
    by_cases h : m = s
    · subst h; simp [hs]; omega
    · by_cases h2 : m ∈ Pd <;> simp [h, h2]; omega
theorem InvIn.out {g : Gr} {U : Sp → Prop} {lf out : Sp → Int} {work Pd : List Sp} {s : Sp} {ds : List Sp} (h : InvIn g U lf out work Pd s ds)
    (hd : ∀ b, U b → ds.count b = (mv g b).count s) : Inv g U lf out work (Pd ++ [s]) := by
  have hs : s ∉ Pd := fun hm => by
    have := List.nodup_append.1 h.nodup
    exact this.2.2 s hm s (by simp) rfl
  have hsd : out s ≠ 0 := (h.dec s).2 (by simp)
  have hin : ∀ b, U b → s ∈ mv g b → b ∈ ds := fun b hb hm => List.count_pos_iff.1 (by rw [hd b hb]; exact List.count_pos_iff.2 hm)
  have hcnt : ∀ b, U b → lf b = ((mv g b).countP fun m => decide (m ∉ Pd ++ [s])) := fun b hb => by
    rw [h.cnt b hb, hd b hb, countP_split hs]; omega
  refine ⟨h.sound, fun t => by rw [h.dec]; simp, by simpa using h.nodup, hcnt, fun b hb => ?_, fun b hb ha => ?_⟩
  · rintro ⟨m, hm, hp, h3⟩
    rcases List.mem_append.1 hp with hp | hp
    · exact h.win b hb ⟨m, hm, hp, h3⟩
    · have : m = s := by simpa using hp
      subst this
      exact h.w1 h3 b (hin b hb hm)
  · by_cases hm : s ∈ mv g b
    · have hb' := hin b hb hm
      rcases (h.sound s hsd).2.val with h1 | h3
      · refine h.a1 h1 b hb' ?_
        rw [hcnt b hb]
        have : ((mv g b).countP fun m => decide (m ∉ Pd ++ [s])) = 0 := by
          rw [List.countP_eq_zero]
          intro m hm
          simp only [decide_eq_true_eq]
          exact fun hn => hn (ha m hm)
        omega
      · exact h.w1 h3 b hb'
    · refine h.all b hb fun m hm' => ?_
      rcases List.mem_append.1 (ha m hm') with h' | h'
      · exact h'
      · have : m = s := by simpa using h'
        subst this
        exact absurd hm' hm
/-- A spot b in whose moves s is, one time more. -/
theorem InvIn.step {g : Gr} {U : Sp → Prop} {lf out : Sp → Int} {work Pd : List Sp} {s : Sp} {ds : List Sp} (h : InvIn g U lf out work Pd s ds) {b : Sp} (hU : U b) (hb : (ds ++ [b]).count b ≤ (mv g b).count s)
    {r : Int} (hr : (out s = 3 ∧ r = 1) ∨ (out s = 1 ∧ r = if lf b - 1 = 0 then 3 else 0)) :
    (out b = 0 → r ≠ 0 → InvIn g U (upd lf b (lf b - 1)) (upd out b r) (work ++ [b]) Pd s (ds ++ [b])) ∧ (out b ≠ 0 ∨ r = 0 → InvIn g U (upd lf b (lf b - 1)) out work Pd s (ds ++ [b])) := by
  have hs : s ∉ Pd := fun hm => by
    have := List.nodup_append.1 h.nodup
    exact this.2.2 s hm s (by simp) rfl
  have hsd : out s ≠ 0 := (h.dec s).2 (by simp)
  have hbc : (ds ++ [b]).count b = ds.count b + 1 := by simp
  have hmem : s ∈ mv g b := List.count_pos_iff.1 (by omega)
  have hcnt : ∀ t, U t → upd lf b (lf b - 1) t = ((mv g t).countP fun m => decide (m ∉ Pd)) - (ds ++ [b]).count t := fun t ht => by
    have := h.cnt t ht
    unfold upd
    split
    · rename_i e; subst e; rw [hbc]; omega
    · rename_i e
      rw [this]
      have : (ds ++ [b]).count t = ds.count t := by simp [List.count_cons, Ne.symm e]
      omega
  constructor
  · intro h0 hr0
    have hne : b ≠ s := fun e => hsd (e ▸ h0)
    have hOut : Out g r b := by
      rcases hr with ⟨h3, rfl⟩ | ⟨h1, hr⟩
      · refine .win hmem ?_
        have := (h.sound s hsd).2
        rwa [h3] at this
      · split at hr
        · rename_i hz
          subst hr
          refine .loss fun m hm => ?_
          have hc := h.cnt b hU
          have hsp := countP_split (l := mv g b) hs
          have hz' : ((mv g b).countP fun m => decide (m ∉ Pd ++ [s])) = 0 := by omega
          rw [List.countP_eq_zero] at hz'
          have hz2 := hz' m hm
          simp only [decide_eq_true_eq] at hz2
          rcases List.mem_append.1 (Decidable.not_not.1 hz2) with hp | hp
          · have hm0 : out m ≠ 0 := (h.dec m).2 (by simp [hp])
            have hso := (h.sound m hm0).2
            rcases hso.val with e | e
            · rw [e] at hso; exact hso
            · exact absurd h0 (h.win b hU ⟨m, hm, hp, e⟩)
          · have : m = s := by simpa using hp
            subst this
            have := (h.sound m hsd).2
            rwa [h1] at this
        · exact absurd hr hr0
    have hnb : b ∉ Pd ++ s :: work := fun hm => (h.dec b).2 hm h0
    have hup : ∀ t, out t ≠ 0 → upd out b r t ≠ 0 := fun t ht => by unfold upd; split <;> assumption
    have hsame : ∀ t, out t ≠ 0 → upd out b r t = out t := fun t ht => by
      unfold upd; rw [if_neg]; rintro rfl; exact ht h0
    have hbr : upd out b r b ≠ 0 := by unfold upd; rw [if_pos rfl]; exact hr0
    refine ⟨fun t ht => ?_, fun t => ?_, ?_, hcnt, fun c hc => ?_, fun c hc ha => hup _ (h.all c hc ha), fun h3 c hc => ?_, fun h1 c hc hz => ?_⟩
    · unfold upd at ht ⊢
      split
      · rename_i e; subst e; exact ⟨hU, hOut⟩
      · rename_i e; rw [if_neg e] at ht; exact h.sound t ht
    · have := h.dec t
      unfold upd
      split
      · rename_i e; subst e; simp [hr0]
      · rename_i e; rw [this]; simp [e]
    · have : Pd ++ s :: (work ++ [b]) = (Pd ++ s :: work) ++ [b] := by simp
      rw [this, List.nodup_append]
      exact ⟨h.nodup, by simp, fun x hx y hy e => hnb (by simp at hy; subst hy; subst e; exact hx)⟩
    · rintro ⟨m, hm, hp, h3⟩
      have hm0 : out m ≠ 0 := (h.dec m).2 (by simp [hp])
      rw [hsame m hm0] at h3
      exact hup _ (h.win c hc ⟨m, hm, hp, h3⟩)
    · rcases List.mem_append.1 hc with hc | hc
      · rw [hsame s hsd] at h3
        exact hup _ (h.w1 h3 c hc)
      · have : c = b := by simpa using hc
        subst this; exact hbr
    · rcases List.mem_append.1 hc with hc | hc
      · rw [hsame s hsd] at h1
        by_cases e : c = b
        · subst e; exact hbr
        · refine hup _ (h.a1 h1 c hc ?_)
          unfold upd at hz; rwa [if_neg e] at hz
      · have : c = b := by simpa using hc
        subst this; exact hbr
  · intro hor
    refine ⟨h.sound, h.dec, h.nodup, hcnt, h.win, h.all, fun h3 c hc => ?_, fun h1 c hc hz => ?_⟩
    · rcases List.mem_append.1 hc with hc | hc
      · exact h.w1 h3 c hc
      · have : c = b := by simpa using hc
        subst this
        rcases hor with ho | ho
        · exact ho
        · rcases hr with ⟨_, e⟩ | ⟨e, _⟩ <;> omega
    · by_cases e : c = b
      · subst e
        rcases hor with ho | ho
        · exact ho
        · rcases hr with ⟨e, _⟩ | ⟨_, e⟩
          · omega
          · unfold upd at hz
            rw [if_pos rfl] at hz
            rw [if_pos hz] at e
            omega
      · rcases List.mem_append.1 hc with hc | hc
        · refine h.a1 h1 c hc ?_
          unfold upd at hz; rwa [if_neg e] at hz
        · exact absurd (by simpa using hc) e
theorem Inv.done {g : Gr} {n : Nat} (hg : GV g) {lf out : Sp → Int} {Pd : List Sp} (h : Inv g (SN g n) lf out [] Pd) {s : Sp} (hs : SN g n s) : out s = res g s := by
  have key : ∀ r s, Out g r s → SN g n s → out s = r := by
    intro r s ho
    induction ho with
    | win hm _ ih =>
      intro hs
      have h3 := ih (mv_SN hg hs hm)
      have hmP := (h.dec _).1 (by rw [h3]; decide)
      have := h.win _ hs ⟨_, hm, by simpa using hmP, h3⟩
      have h2 := (h.sound _ this).2
      exact (Out.uniq (.win hm ‹_›) _ h2)
    | loss hl ih =>
      intro hs
      have := h.all _ hs fun m hm => by
        have h1 := ih m hm (mv_SN hg hs hm)
        have hmP := (h.dec m).1 (by rw [h1]; decide)
        simpa using hmP
      have h2 := (h.sound _ this).2
      exact (Out.uniq (.loss hl) _ h2)
  by_cases h0 : out s = 0
  · rcases res_cases g s with ⟨h1, h2⟩ | ⟨h1, h2⟩ | ⟨h1, _⟩
    · have := key _ _ h2 hs; omega
    · have := key _ _ h2 hs; omega
    · rw [h0, h1]
  · exact (res_of (h.sound s h0).2).symm
end Go.Lp
end

section
/-
  Loopy games, plainly: filling the counters; how many spots there are; what is reached; order of spots; proofs.
-/
set_option linter.unusedVariables false
set_option linter.unusedSimpArgs false
set_option linter.unusedSectionVars false
namespace Go.Lp
/-! ### How many -/
theorem nodup_bound : ∀ (N : Nat) (l : List Nat), l.Nodup → (∀ x ∈ l, x < N) → l.length ≤ N
  | 0, l, _, h => by
    cases l with
    | nil => simp
    | cons x r => have := h x (by simp); omega
  | N + 1, l, hn, h => by
    have h1 := nodup_bound N (l.erase N) (hn.erase N) (fun x hx => by
      have hm := List.mem_of_mem_erase hx
      have hne : x ≠ N := fun e => by subst e; exact absurd hx (hn.not_mem_erase)
      have := h x hm
      omega)
    by_cases hm : N ∈ l
    · rw [List.length_erase_of_mem hm] at h1; omega
    · rw [List.erase_of_not_mem hm] at h1; omega
def spn (n : Nat) (s : Sp) : Nat := ((s.1 * (2 * n + 1) + s.2.1 + n) * 2 + s.2.2).toNat
theorem spn_inj {g : Gr} {n : Nat} {s t : Sp} (hs : SN g n s) (ht : SN g n t) (h : spn n s = spn n t) : s = t := by
  obtain ⟨a, k, w⟩ := s
  obtain ⟨b, j, v⟩ := t
  unfold spn at h
  unfold SN at hs ht
  dsimp only at *
  have e1 : (0 : Int) ≤ a * (2 * n + 1) := Int.mul_nonneg hs.1 (by omega)
  have e2 : (0 : Int) ≤ b * (2 * n + 1) := Int.mul_nonneg ht.1 (by omega)
  have h1 : w = v := by omega
  have h2 : a * (2 * n + 1) + k = b * (2 * n + 1) + j := by omega
  have h3 : a = b := by
    rcases Int.lt_trichotomy a b with h | h | h
    · exfalso
      have : (a + 1) * (2 * (n : Int) + 1) ≤ b * (2 * n + 1) := Int.mul_le_mul_of_nonneg_right (by omega) (by omega)
      rw [Int.add_mul] at this; omega
    · exact h
    · exfalso
      have : (b + 1) * (2 * (n : Int) + 1) ≤ a * (2 * n + 1) := Int.mul_le_mul_of_nonneg_right (by omega) (by omega)
      rw [Int.add_mul] at this; omega
  subst h3
  have : k = j := by omega
  subst this; subst h1; rfl
theorem spn_lt {g : Gr} {n : Nat} {s : Sp} (hs : SN g n s) : spn n s < g.L.length * (2 * n + 1) * 2 := by
  obtain ⟨a, k, w⟩ := s
  unfold spn
  unfold SN at hs
  dsimp only at *
  have : (a + 1) * (2 * (n : Int) + 1) ≤ g.L.length * (2 * n + 1) := Int.mul_le_mul_of_nonneg_right (by omega) (by omega)
  rw [Int.add_mul] at this
  have h2 : ((g.L.length * (2 * n + 1) * 2 : Nat) : Int) = (g.L.length : Int) * (2 * n + 1) * 2 := by simp
  have e1 : (0 : Int) ≤ a * (2 * n + 1) := Int.mul_nonneg hs.1 (by omega)
  omega
theorem nodup_map_on {α β : Type} {f : α → β} : ∀ {l : List α}, (∀ x ∈ l, ∀ y ∈ l, f x = f y → x = y) → l.Nodup → (l.map f).Nodup
  | [], _, _ => by simp
  | x :: r, h, hn => by
    rw [List.nodup_cons] at hn
    rw [List.map_cons, List.nodup_cons]
    refine ⟨fun hm => ?_, nodup_map_on (fun a ha b hb => h a (by simp [ha]) b (by simp [hb])) hn.2⟩
    obtain ⟨y, hy, e⟩ := List.mem_map.1 hm
    have := h y (by simp [hy]) x (by simp) e
    subst this
    exact hn.1 hy
theorem SN_bound {g : Gr} (hg : GV g) {n : Nat} (hn : n ≤ 16) {l : List Sp} (hd : l.Nodup) (h : ∀ s ∈ l, SN g n s) : l.length ≤ 2112 := by
  have h1 := nodup_bound (g.L.length * (2 * n + 1) * 2) (l.map (spn n)) (nodup_map_on (fun x hx y hy e => spn_inj (h x hx) (h y hy) e) hd) (fun x hx => by
    obtain ⟨s, hs, rfl⟩ := List.mem_map.1 hx
    exact spn_lt (h s hs))
  rw [List.length_map] at h1
  have h2 : g.L.length * (2 * n + 1) ≤ 32 * 33 := Nat.mul_le_mul hg.l1 (by omega)
  omega

/-! ### Filling the counters -/
structure Ini (g : Gr) (bf : Sp → List Sp) (lf out : Sp → Int) (work ds : List Sp) : Prop where
  nodup : ds.Nodup
  bc : ∀ t b, (bf t).count b = if b ∈ ds then (mv g b).count t else 0
  len : ∀ t, (bf t).length ≤ 40 * ds.length
  lf : ∀ b ∈ ds, lf b = (mv g b).length
  out : ∀ b, out b = if b ∈ ds ∧ mv g b = [] then 3 else 0
  wk : work = ds.filter fun b => decide (mv g b = [])
structure IniIn (g : Gr) (bf : Sp → List Sp) (lf out : Sp → Int) (work ds : List Sp) (s : Sp) (ms : List Sp) : Prop where
  nodup : ds.Nodup
  new : s ∉ ds
  bc : ∀ t b, (bf t).count b = (if b ∈ ds then (mv g b).count t else 0) + if b = s then ms.count t else 0
  len : ∀ t, (bf t).length ≤ 40 * ds.length + ms.length
  lf : ∀ b ∈ ds ++ [s], lf b = (mv g b).length
  out : ∀ b, out b = if b ∈ ds ∧ mv g b = [] then 3 else 0
  wk : work = ds.filter fun b => decide (mv g b = [])
theorem Ini.start {g : Gr} : Ini g (fun _ => []) (fun _ => 0) (fun _ => 0) [] [] := ⟨by simp, by simp, by simp, by simp, by simp, by simp⟩
theorem Ini.into {g : Gr} {bf : Sp → List Sp} {lf out : Sp → Int} {work ds : List Sp} (h : Ini g bf lf out work ds) {s : Sp} (hs : s ∉ ds) : IniIn g bf (upd lf s (mv g s).length) out work ds s [] :=
  ⟨h.nodup, hs, fun t b => by rw [h.bc]; simp, fun t => by have := h.len t; simpa using this, fun b hb => by
    unfold upd
    split
    · rename_i e; rw [e]
    · rename_i e
      exact h.lf b (by simpa [e] using hb), h.out, h.wk⟩
def updL (f : Sp → List Sp) (s : Sp) (v : List Sp) : Sp → List Sp := fun t => if t = s then v else f t
theorem IniIn.step {g : Gr} {bf : Sp → List Sp} {lf out : Sp → Int} {work ds : List Sp} {s : Sp} {ms : List Sp} (h : IniIn g bf lf out work ds s ms) (m : Sp) : IniIn g (updL bf m (bf m ++ [s])) lf out work ds s (ms ++ [m]) :=
  ⟨h.nodup, h.new, fun t b => by
    have := h.bc t b
    unfold updL
    split
    · rename_i e
      subst e
      rw [List.count_append, this]
      by_cases e : b = s
      · subst e; simp; omega
      · simp [e, Ne.symm e]
    · rename_i e
      rw [this]
      simp [List.count_append, Ne.symm e], fun t => by
    have := h.len t
    unfold updL
    split
    · rename_i e; subst e; simp; omega
    · simp; omega, h.lf, h.out, h.wk⟩
theorem IniIn.outE {g : Gr} {bf : Sp → List Sp} {lf out : Sp → Int} {work ds : List Sp} {s : Sp} {ms : List Sp} (h : IniIn g bf lf out work ds s ms) (hl : ms = mv g s) (hb : ms.length ≤ 33) (he : mv g s = []) : out s = 0 ∧ Ini g bf lf (upd out s 3) (work ++ [s]) (ds ++ [s]) := by
  subst hl
  refine ⟨by rw [h.out]; simp [h.new], ?_, fun t b => ?_, fun t => by have := h.len t; simp; omega, h.lf, fun b => ?_, ?_⟩
  · rw [List.nodup_append]
    exact ⟨h.nodup, by simp, fun x hx y hy e => h.new (by simp at hy; subst hy; subst e; exact hx)⟩
  · rw [h.bc]
    by_cases e : b = s
    · subst e; simp [h.new]
    · simp [e]
  · unfold upd
    by_cases e : b = s
    · subst e; simp [he]
    · rw [if_neg e, h.out]; simp [e]
  · rw [h.wk, List.filter_append]; simp [he]
theorem IniIn.outN {g : Gr} {bf : Sp → List Sp} {lf out : Sp → Int} {work ds : List Sp} {s : Sp} {ms : List Sp} (h : IniIn g bf lf out work ds s ms) (hl : ms = mv g s) (hb : ms.length ≤ 33) (he : mv g s ≠ []) : Ini g bf lf out work (ds ++ [s]) := by
  subst hl
  refine ⟨?_, fun t b => ?_, fun t => by have := h.len t; simp; omega, h.lf, fun b => ?_, ?_⟩
  · rw [List.nodup_append]
    exact ⟨h.nodup, by simp, fun x hx y hy e => h.new (by simp at hy; subst hy; subst e; exact hx)⟩
  · rw [h.bc]
    by_cases e : b = s
    · subst e; simp [h.new]
    · simp [e]
  · rw [h.out]
    by_cases e : b = s
    · subst e; simp [he]
    · simp [e]
  · rw [h.wk, List.filter_append]; simp [he]
theorem Ini.inv {g : Gr} {n : Nat} {bf : Sp → List Sp} {lf out : Sp → Int} {work ds : List Sp} (h : Ini g bf lf out work ds) (hd : ∀ t, t ∈ ds ↔ SN g n t) : Inv g (SN g n) lf out work [] := by
  have ho : ∀ b, out b ≠ 0 ↔ b ∈ ds ∧ mv g b = [] := fun b => by rw [h.out]; split <;> simp_all
  have ho3 : ∀ b, out b ≠ 0 → out b = 3 := fun b hb => by rw [h.out]; rw [if_pos ((ho b).1 hb)]
  refine ⟨fun s hs => ⟨(hd s).1 ((ho s).1 hs).1, ?_⟩, fun s => ?_, ?_, fun b hb => ?_, fun b hb => ?_, fun b hb ha => ?_⟩
  · rw [ho3 s hs]
    exact .loss fun m hm => by rw [((ho s).1 hs).2] at hm; cases hm
  · rw [ho, h.wk]; simp
  · rw [h.wk]
    exact h.nodup.filter _
  · rw [h.lf b ((hd b).2 hb)]
    simp
  · rintro ⟨m, _, hm, _⟩
    cases hm
  · refine (ho b).2 ⟨(hd b).2 hb, ?_⟩
    cases hm : mv g b with
    | nil => rfl
    | cons m r => have := ha m (by rw [hm]; simp); cases this
theorem Ini.cnt {g : Gr} {bf : Sp → List Sp} {lf out : Sp → Int} {work ds : List Sp} (h : Ini g bf lf out work ds) {s b : Sp} (hb : b ∈ ds) : (bf s).count b = (mv g b).count s := by rw [h.bc, if_pos hb]
theorem Ini.mem {g : Gr} {bf : Sp → List Sp} {lf out : Sp → Int} {work ds : List Sp} (h : Ini g bf lf out work ds) {s b : Sp} (hb : b ∈ bf s) : b ∈ ds := by
  have := h.bc s b
  by_cases hd : b ∈ ds
  · exact hd
  · rw [if_neg hd] at this
    have := List.count_pos_iff.2 hb
    omega

/-! ### The order of spots -/
def lt (a b : Sp) : Prop := a.1 < b.1 ∨ a.1 = b.1 ∧ (a.2.1 < b.2.1 ∨ a.2.1 = b.2.1 ∧ a.2.2 < b.2.2)
instance : DecidableRel lt := fun a b => by unfold lt; infer_instance
theorem lt_irrefl (a : Sp) : ¬ lt a a := by unfold lt; omega
theorem lt_trans {a b c : Sp} (h : lt a b) (h' : lt b c) : lt a c := by unfold lt at *; omega
theorem lt_total {a b : Sp} (h : a ≠ b) : lt a b ∨ lt b a := by
  obtain ⟨a1, a2, a3⟩ := a
  obtain ⟨b1, b2, b3⟩ := b
  unfold lt
  dsimp only
  by_cases e1 : a1 = b1
  · by_cases e2 : a2 = b2
    · by_cases e3 : a3 = b3
      · exact absurd (by rw [e1, e2, e3]) h
      · omega
    · omega
  · omega
/-- Lists in order with the same members are one. -/
theorem sorted_uniq : ∀ {l m : List Sp}, l.Pairwise lt → m.Pairwise lt → (∀ t, t ∈ l ↔ t ∈ m) → l = m
  | [], [], _, _, _ => rfl
  | [], b :: m, _, _, h => absurd ((h b).2 (by simp)) (by simp)
  | a :: l, [], _, _, h => absurd ((h a).1 (by simp)) (by simp)
  | a :: l, b :: m, hl, hm, h => by
    rw [List.pairwise_cons] at hl hm
    have e : a = b := by
      rcases List.mem_cons.1 ((h a).1 (by simp)) with e | h1
      · exact e
      · rcases List.mem_cons.1 ((h b).2 (by simp)) with e | h2
        · exact e.symm
        · exact absurd (lt_trans (hm.1 a h1) (hl.1 b h2)) (lt_irrefl _)
    subst e
    congr 1
    refine sorted_uniq hl.2 hm.2 fun t => ⟨fun ht => ?_, fun ht => ?_⟩
    · rcases List.mem_cons.1 ((h t).1 (by simp [ht])) with e | h1
      · subst e; exact absurd (hl.1 t ht) (lt_irrefl _)
      · exact h1
    · rcases List.mem_cons.1 ((h t).2 (by simp [ht])) with e | h1
      · subst e; exact absurd (hm.1 t ht) (lt_irrefl _)
      · exact h1

/-! ### What is reached -/
def lost (side : Int) : Int := if side = 1 then 1 else 3
def Hd (g : Gr) (side : Int) (s : Sp) : Prop := left g s ≠ lost side
inductive Rch (g : Gr) (side : Int) (s0 : Sp) : Sp → Prop
  | here : Rch g side s0 s0
  | step {t m : Sp} : Rch g side s0 t → m ∈ mv g t → (t.2.2 ≠ side ∨ Hd g side m) → Rch g side s0 m
theorem Rch.SN {g : Gr} (hg : GV g) {n : Nat} {side : Int} {s0 t : Sp} (h0 : SN g n s0) (h : Rch g side s0 t) : Lp.SN g n t := by
  induction h with
  | here => exact h0
  | step _ hm _ ih => exact mv_SN hg ih hm
theorem Rch.closed {g : Gr} {side : Int} {s0 : Sp} {l : List Sp} (h0 : s0 ∈ l) (hc : ∀ t ∈ l, ∀ m ∈ mv g t, (t.2.2 ≠ side ∨ Hd g side m) → m ∈ l) {t : Sp} (h : Rch g side s0 t) : t ∈ l := by
  induction h with
  | here => exact h0
  | step _ hm ha ih => exact hc _ ih _ hm ha
def PrS (g : Gr) (side : Int) (s : Sp) (l : List Sp) : Prop := l.Pairwise lt ∧ ∀ t, t ∈ l ↔ Rch g side s t
theorem PrS.uniq {g : Gr} {side : Int} {s : Sp} {l m : List Sp} (h : PrS g side s l) (h' : PrS g side s m) : l = m := sorted_uniq h.1 h'.1 fun t => (h.2 t).trans (h'.2 t).symm

/-! ### Proofs -/
structure CkP (g : Gr) (s : Sp) (side : Int) (c : List Sp) : Prop where
  sn : ∀ t ∈ c, SN g 16 t
  s : s ∈ c
  own : ∀ t ∈ c, t.2.2 = side → ∃ m ∈ mv g t, m ∈ c
  other : ∀ t ∈ c, t.2.2 ≠ side → ∀ m ∈ mv g t, m ∈ c
end Go.Lp
end

section
/-
  Loopy games, plainly: the laws.
-/
set_option linter.unusedVariables false
set_option linter.unusedSimpArgs false
set_option linter.unusedSectionVars false
namespace Go.Lp
variable {g : Gr}
theorem left_eq1 {s : Sp} (hw : s.2.2 = 0 ∨ s.2.2 = 1) : left g s = 1 ↔ (s.2.2 = 0 ∧ Out g 1 s ∨ s.2.2 = 1 ∧ Out g 3 s) := by
  unfold left
  rcases res_cases g s with ⟨h1, h2⟩ | ⟨h1, h2⟩ | ⟨h1, h2, h3⟩
  · have := fun h => h2.uniq 3 h
    rw [h1]
    rcases hw with e | e <;> simp [e, h2]
    intro h; have := this h; omega
  · have := fun h => h2.uniq 1 h
    rw [h1]
    rcases hw with e | e <;> simp [e, h2]
    intro h; have := this h; omega
  · rw [h1]; simp [h2, h3]
theorem left_eq3 {s : Sp} (hw : s.2.2 = 0 ∨ s.2.2 = 1) : left g s = 3 ↔ (s.2.2 = 0 ∧ Out g 3 s ∨ s.2.2 = 1 ∧ Out g 1 s) := by
  unfold left
  rcases res_cases g s with ⟨h1, h2⟩ | ⟨h1, h2⟩ | ⟨h1, h2, h3⟩
  · have := fun h => h2.uniq 3 h
    rw [h1]
    rcases hw with e | e <;> simp [e, h2]
    intro h; have := this h; omega
  · have := fun h => h2.uniq 1 h
    rw [h1]
    rcases hw with e | e <;> simp [e, h2]
    intro h; have := this h; omega
  · rw [h1]; simp [h2, h3]
theorem pick0 {w : Int} {A B : Prop} (h : w = 0 ∧ A ∨ w = 1 ∧ B) (e : w = 0) : A := h.elim (fun h => h.2) fun h => absurd h.1 (by omega)
theorem pick1 {w : Int} {A B : Prop} (h : w = 0 ∧ A ∨ w = 1 ∧ B) (e : w = 1) : B := h.elim (fun h => absurd h.1 (by omega)) fun h => h.2
theorem mv_who {s m : Sp} (hm : m ∈ mv g s) : m.2.2 = 1 - s.2.2 := by
  rcases mv_mem.1 hm with ⟨i, _, rfl⟩ | ⟨_, rfl⟩ <;> rfl
/-- The best of the moves. -/
def bestL (g : Gr) (l : List Sp) (who : Int) (f : Sp → Int) : Int := if who = 0 then l.foldl (fun a m => min a (f m)) 3 else l.foldl (fun a m => max a (f m)) 1
theorem foldl_min {f : Sp → Int} : ∀ (l : List Sp) (a x : Int), x ≤ l.foldl (fun a m => min a (f m)) a ↔ x ≤ a ∧ ∀ m ∈ l, x ≤ f m
  | [], a, x => by simp
  | m :: l, a, x => by rw [List.foldl_cons, foldl_min l, Int.le_min]; simp [and_assoc]
theorem foldl_max {f : Sp → Int} : ∀ (l : List Sp) (a x : Int), l.foldl (fun a m => max a (f m)) a ≤ x ↔ a ≤ x ∧ ∀ m ∈ l, f m ≤ x
  | [], a, x => by simp
  | m :: l, a, x => by rw [List.foldl_cons, foldl_max l, Int.max_le]; simp [and_assoc]
theorem turns {s : Sp} (hw : s.2.2 = 0 ∨ s.2.2 = 1) : left g s = bestL g (mv g s) s.2.2 (left g) := by
  have hm : ∀ m ∈ mv g s, (m.2.2 = 0 ∨ m.2.2 = 1) ∧ m.2.2 = 1 - s.2.2 := fun m hm => by have := mv_who hm; exact ⟨by omega, this⟩
  have hc := left_cases g s
  have h1 := left_eq1 (g := g) hw
  have h3 := left_eq3 (g := g) hw
  unfold bestL
  rcases hw with e | e
  · rw [if_pos e]
    have hmin := foldl_min (f := left g) (mv g s) 3
    generalize (mv g s).foldl (fun a m => min a (left g m)) 3 = w at hmin
    have ha := (hmin w).1 (Int.le_refl _)
    rcases hc with hc | hc | hc
    · have := h1.1 hc
      have ho : Out g 1 s := pick0 this e
      cases ho with
      | win hmm ho =>
        have hl := (left_eq1 (g := g) (hm _ hmm).1).2 (.inr ⟨by have := (hm _ hmm).2; omega, ho⟩)
        have := ha.2 _ hmm
        have := (hmin 1).2 ⟨by omega, fun m hm => by have := left_cases g m; omega⟩
        omega
    · have h2 : 2 ≤ w := (hmin 2).2 ⟨by omega, fun m hmm => by
        have := left_cases g m
        rcases this with e1 | e1 | e1
        · have := (left_eq1 (g := g) (hm _ hmm).1).1 e1
          have hmw := (hm _ hmm).2
          have : Out g 3 m := pick1 this (by omega)
          have := h1.2 (.inl ⟨e, .win hmm this⟩)
          omega
        · omega
        · omega⟩
      have : w ≠ 3 := fun hw3 => by
        have := h3.2 (.inl ⟨e, .loss fun m hmm => by
          have h5 := ha.2 m hmm
          have h6 := left_cases g m
          have h7 := (left_eq3 (g := g) (hm _ hmm).1).1 (by omega)
          have := (hm _ hmm).2
          exact pick1 h7 (by omega)⟩)
        omega
      omega
    · have := h3.1 hc
      have ho : Out g 3 s := pick0 this e
      cases ho with
      | loss hl =>
        have := (hmin 3).2 ⟨by omega, fun m hmm => by
          have := (left_eq3 (g := g) (hm _ hmm).1).2 (.inr ⟨by have := (hm _ hmm).2; omega, hl m hmm⟩)
          omega⟩
        omega
  · rw [if_neg (by omega)]
    have hmax := foldl_max (f := left g) (mv g s) 1
    generalize (mv g s).foldl (fun a m => max a (left g m)) 1 = w at hmax
    have ha := (hmax w).1 (Int.le_refl _)
    rcases hc with hc | hc | hc
    · have := h1.1 hc
      have ho : Out g 3 s := pick1 this e
      cases ho with
      | loss hl =>
        have := (hmax 1).2 ⟨by omega, fun m hmm => by
          have := (left_eq1 (g := g) (hm _ hmm).1).2 (.inl ⟨by have := (hm _ hmm).2; omega, hl m hmm⟩)
          omega⟩
        omega
    · have h2 : w ≤ 2 := (hmax 2).2 ⟨by omega, fun m hmm => by
        have := left_cases g m
        rcases this with e1 | e1 | e1
        · omega
        · omega
        · have := (left_eq3 (g := g) (hm _ hmm).1).1 e1
          have hmw := (hm _ hmm).2
          have : Out g 3 m := pick0 this (by omega)
          have := h3.2 (.inr ⟨e, .win hmm this⟩)
          omega⟩
      have : w ≠ 1 := fun hw3 => by
        have := h1.2 (.inr ⟨e, .loss fun m hmm => by
          have h5 := ha.2 m hmm
          have h6 := left_cases g m
          have h7 := (left_eq1 (g := g) (hm _ hmm).1).1 (by omega)
          have := (hm _ hmm).2
          exact pick0 h7 (by omega)⟩)
        omega
      omega
    · have := h3.1 hc
      have ho : Out g 1 s := pick1 this e
      cases ho with
      | win hmm ho =>
        have hl := (left_eq3 (g := g) (hm _ hmm).1).2 (.inl ⟨by have := (hm _ hmm).2; omega, ho⟩)
        have := ha.2 _ hmm
        have := (hmax 3).2 ⟨by omega, fun m hm => by have := left_cases g m; omega⟩
        omega

/-! ### Proofs -/
/-- The side loses the spot, told by who has the turn. -/
theorem hd_iff {side : Int} (hside : side = 0 ∨ side = 1) {s : Sp} (hw : s.2.2 = 0 ∨ s.2.2 = 1) : Hd g side s ↔ (s.2.2 = side → ¬ Out g 3 s) ∧ (s.2.2 ≠ side → ¬ Out g 1 s) := by
  unfold Hd lost
  rcases hside with rfl | rfl
  · rw [if_neg (by omega), ne_eq, left_eq3 hw]
    rcases hw with e | e <;> simp [e]
  · rw [if_pos rfl, ne_eq, left_eq1 hw]
    rcases hw with e | e <;> simp [e]
theorem hd_own {side : Int} (hside : side = 0 ∨ side = 1) {s : Sp} (hw : s.2.2 = 0 ∨ s.2.2 = 1) (h : Hd g side s) (hs : s.2.2 = side) : ∃ m ∈ mv g s, Hd g side m := by
  have h3 := ((hd_iff hside hw).1 h).1 hs
  apply Classical.byContradiction
  intro hn
  refine h3 (.loss fun m hm => ?_)
  have hmw := mv_who hm
  have : ¬ Hd g side m := fun hh => hn ⟨m, hm, hh⟩
  rw [hd_iff hside (by omega)] at this
  apply Classical.byContradiction
  intro h1
  exact this ⟨fun e => by omega, fun _ => h1⟩
theorem hd_other {side : Int} (hside : side = 0 ∨ side = 1) {s : Sp} (hw : s.2.2 = 0 ∨ s.2.2 = 1) (h : Hd g side s) (hs : s.2.2 ≠ side) : ∀ m ∈ mv g s, Hd g side m := by
  intro m hm
  have hmw := mv_who hm
  rw [hd_iff hside (by omega)]
  exact ⟨fun _ h3 => ((hd_iff hside hw).1 h).2 hs (.win hm h3), fun e => by omega⟩
theorem rch_hd {side : Int} (hside : side = 0 ∨ side = 1) {n : Nat} (hg : GV g) {s t : Sp} (h0 : SN g n s) (hh : Hd g side s) (h : Rch g side s t) : Hd g side t := by
  induction h with
  | here => exact hh
  | step hr hm ha ih =>
    rcases ha with ha | ha
    · exact hd_other hside (hr.SN hg h0).2.2.2.2 ih ha _ hm
    · exact ha
theorem SN.mono {n m : Nat} (hnm : n ≤ m) {s : Sp} (h : SN g n s) : SN g m s := by unfold SN at *; omega
theorem SN.self {s : Sp} (h : SN g 16 s) : SN g s.2.1.natAbs s := by unfold SN at *; omega
theorem abs16 {s : Sp} (h : SN g 16 s) : s.2.1.natAbs ≤ 16 := by unfold SN at h; omega
/-- What is proved is a proof. -/
theorem proved {side : Int} (hside : side = 0 ∨ side = 1) (hg : GV g) {s : Sp} (h0 : SN g 16 s) (hh : Hd g side s) {l : List Sp} (hl : PrS g side s l) : CkP g s side l := by
  refine ⟨fun t ht => ((hl.2 t).1 ht).SN hg h0, (hl.2 s).2 .here, fun t ht e => ?_, fun t ht e m hm => (hl.2 m).2 (.step ((hl.2 t).1 ht) hm (.inl e))⟩
  have hr := (hl.2 t).1 ht
  obtain ⟨m, hm, hd⟩ := hd_own hside (hr.SN hg h0).2.2.2.2 (rch_hd hside hg h0 hh hr) e
  exact ⟨m, hm, (hl.2 m).2 (.step hr hm (.inr hd))⟩
/-- A side that has a proof does not lose. -/
theorem sound {side : Int} (hside : side = 0 ∨ side = 1) {s : Sp} {c : List Sp} (h : CkP g s side c) : Hd g side s := by
  have key : ∀ r t, Out g r t → t ∈ c → (r = 3 → t.2.2 ≠ side) ∧ (r = 1 → t.2.2 = side) := by
    intro r t ho
    induction ho with
    | win hm _ ih =>
      intro ht
      refine ⟨fun e => by omega, fun _ => Decidable.byContradiction fun hne => ?_⟩
      have := (ih (h.other _ ht hne _ hm)).1 rfl
      have hw := mv_who hm
      have := (h.sn _ ht).2.2.2.2
      omega
    | loss hl ih =>
      intro ht
      refine ⟨fun _ e => ?_, fun e => by omega⟩
      obtain ⟨m, hm, hc⟩ := h.own _ ht e
      have := (ih m hm hc).2 rfl
      have hw := mv_who hm
      have := (h.sn _ ht).2.2.2.2
      omega
  rw [hd_iff hside (h.sn _ h.s).2.2.2.2]
  exact ⟨fun e h3 => (key 3 s h3 h.s).1 rfl e, fun e h1 => e ((key 1 s h1 h.s).2 rfl)⟩

/-! ### Exchanging both sides -/
def tg (g : Gr) : Gr := ⟨g.R, g.L⟩
def ts (s : Sp) : Sp := (s.1, -s.2.1, 1 - s.2.2)
theorem ts_ts (s : Sp) : ts (ts s) = s := by
  obtain ⟨a, b, c⟩ := s
  simp [ts]; omega
theorem tg_GV (hg : GV g) : GV (tg g) := ⟨by show 1 ≤ g.R.length; rw [hg.lr]; exact hg.l0, by show g.R.length ≤ 32; rw [hg.lr]; exact hg.l1, by show g.L.length = g.R.length; rw [hg.lr], fun l hl => by show _ ∧ ∀ i ∈ l, 0 ≤ i ∧ i < (g.R.length : Int); rw [hg.lr]; exact hg.or l hl, fun l hl => by show _ ∧ ∀ i ∈ l, 0 ≤ i ∧ i < (g.R.length : Int); rw [hg.lr]; exact hg.ol l hl⟩
theorem opts_ts {s : Sp} (hw : s.2.2 = 0 ∨ s.2.2 = 1) : opts (tg g) (ts s) = opts g s := by
  unfold opts tg ts
  rcases hw with e | e <;> simp [e]
theorem mv_ts {s m : Sp} (hw : s.2.2 = 0 ∨ s.2.2 = 1) : ts m ∈ mv (tg g) (ts s) ↔ m ∈ mv g s := by
  rw [mv_mem, mv_mem, opts_ts hw]
  obtain ⟨a, b, c⟩ := s
  obtain ⟨x, y, z⟩ := m
  simp only [ts, stp, Prod.mk.injEq]
  constructor
  · rintro (⟨i, hi, h1, h2, h3⟩ | ⟨h0, h1, h2, h3⟩)
    · exact .inl ⟨i, hi, h1, by omega, by omega⟩
    · rcases hw with e | e <;> dsimp only at e <;> subst e <;> simp at * <;> exact .inr (by omega)
  · rintro (⟨i, hi, h1, h2, h3⟩ | ⟨h0, h1, h2, h3⟩)
    · exact .inl ⟨i, hi, h1, by omega, by omega⟩
    · rcases hw with e | e <;> dsimp only at e <;> subst e <;> simp at * <;> exact .inr (by omega)
theorem who_of_mv {s m : Sp} (hw : s.2.2 = 0 ∨ s.2.2 = 1) (hm : m ∈ mv g s) : m.2.2 = 0 ∨ m.2.2 = 1 := by have := mv_who hm; omega
theorem out_ts {r : Int} {s : Sp} (h : Out g r s) (hw : s.2.2 = 0 ∨ s.2.2 = 1) : Out (tg g) r (ts s) := by
  induction h with
  | win hm _ ih => exact .win ((mv_ts hw).2 hm) (ih (who_of_mv hw hm))
  | loss hl ih =>
    refine .loss fun m hm => ?_
    have : m = ts (ts m) := (ts_ts m).symm
    rw [this] at hm ⊢
    have hm' := (mv_ts hw).1 hm
    exact ih _ hm' (who_of_mv hw hm')
theorem out_ts_iff {r : Int} {s : Sp} (hw : s.2.2 = 0 ∨ s.2.2 = 1) : Out (tg g) r (ts s) ↔ Out g r s := ⟨fun h => by
  have := out_ts (g := tg g) h (by show 1 - s.2.2 = 0 ∨ 1 - s.2.2 = 1; omega)
  rw [ts_ts] at this
  exact this, fun h => out_ts h hw⟩
theorem left_ts {s : Sp} (hw : s.2.2 = 0 ∨ s.2.2 = 1) : left (tg g) (ts s) = 4 - left g s := by
  have hw' : (ts s).2.2 = 0 ∨ (ts s).2.2 = 1 := by show 1 - s.2.2 = 0 ∨ 1 - s.2.2 = 1; omega
  have a1 := left_eq1 (g := g) hw
  have a3 := left_eq3 (g := g) hw
  have b1 := left_eq1 (g := tg g) hw'
  have b3 := left_eq3 (g := tg g) hw'
  rw [out_ts_iff hw, out_ts_iff hw] at b1 b3
  have e : (ts s).2.2 = 1 - s.2.2 := rfl
  rw [e] at b1 b3
  have c1 := left_cases g s
  have c2 := left_cases (tg g) (ts s)
  have b1' : left (tg g) (ts s) = 1 ↔ left g s = 3 := by
    rw [b1, a3]
    constructor
    · rintro (⟨h, h'⟩ | ⟨h, h'⟩)
      · exact .inr ⟨by omega, h'⟩
      · exact .inl ⟨by omega, h'⟩
    · rintro (⟨h, h'⟩ | ⟨h, h'⟩)
      · exact .inr ⟨by omega, h'⟩
      · exact .inl ⟨by omega, h'⟩
  have b3' : left (tg g) (ts s) = 3 ↔ left g s = 1 := by
    rw [b3, a1]
    constructor
    · rintro (⟨h, h'⟩ | ⟨h, h'⟩)
      · exact .inr ⟨by omega, h'⟩
      · exact .inl ⟨by omega, h'⟩
    · rintro (⟨h, h'⟩ | ⟨h, h'⟩)
      · exact .inr ⟨by omega, h'⟩
      · exact .inl ⟨by omega, h'⟩
  omega
theorem hd_ts {side : Int} (hside : side = 0 ∨ side = 1) {s : Sp} (hw : s.2.2 = 0 ∨ s.2.2 = 1) : Hd (tg g) (1 - side) (ts s) ↔ Hd g side s := by
  unfold Hd lost
  rw [left_ts hw]
  have := left_cases g s
  rcases hside with rfl | rfl <;> simp <;> omega
theorem rch_ts {side : Int} (hside : side = 0 ∨ side = 1) {s t : Sp} (hw : s.2.2 = 0 ∨ s.2.2 = 1) (h : Rch g side s t) : Rch (tg g) (1 - side) (ts s) (ts t) ∧ (t.2.2 = 0 ∨ t.2.2 = 1) := by
  induction h with
  | here => exact ⟨.here, hw⟩
  | step _ hm ha ih =>
    have hw' := who_of_mv ih.2 hm
    refine ⟨.step ih.1 ((mv_ts ih.2).2 hm) ?_, hw'⟩
    rcases ha with ha | ha
    · exact .inl (by show 1 - _ ≠ 1 - side; omega)
    · exact .inr ((hd_ts hside hw').2 ha)
theorem rch_ts_iff {side : Int} (hside : side = 0 ∨ side = 1) {s t : Sp} (hw : s.2.2 = 0 ∨ s.2.2 = 1) : Rch (tg g) (1 - side) (ts s) (ts t) ↔ Rch g side s t := ⟨fun h => by
  have := (rch_ts (g := tg g) (side := 1 - side) (by omega) (by show 1 - s.2.2 = 0 ∨ 1 - s.2.2 = 1; omega) h).1
  rw [ts_ts, ts_ts] at this
  have e : 1 - (1 - side) = side := by omega
  rw [e] at this
  exact this, fun h => (rch_ts hside hw h).1⟩
theorem pw_nodup {l : List Sp} (h : l.Pairwise lt) : l.Nodup := h.imp fun hab e => by subst e; exact lt_irrefl _ hab
theorem nodup_len {α : Type} [DecidableEq α] : ∀ {l m : List α}, l.Nodup → (∀ t ∈ l, t ∈ m) → l.length ≤ m.length
  | [], m, _, _ => by simp
  | a :: l, m, hn, h => by
    rw [List.nodup_cons] at hn
    have h1 := nodup_len (l := l) (m := m.erase a) hn.2 (fun t ht => by
      rw [List.mem_erase_of_ne (by rintro rfl; exact hn.1 ht)]
      exact h t (by simp [ht]))
    have hm := h a (by simp)
    have := List.length_pos_of_mem hm
    rw [List.length_erase_of_mem hm] at h1
    simp; omega
theorem prs_ts {side : Int} (hside : side = 0 ∨ side = 1) {s : Sp} (hw : s.2.2 = 0 ∨ s.2.2 = 1) {l m : List Sp} (hl : PrS g side s l) (hm : PrS (tg g) (1 - side) (ts s) m) : l.length = m.length := by
  have hinj : ∀ {l : List Sp}, l.Nodup → (l.map ts).Nodup := fun hn => nodup_map_on (fun x _ y _ e => by rw [← ts_ts x, e, ts_ts]) hn
  have h1 := nodup_len (hinj (pw_nodup hl.1)) (m := m) (fun t ht => by
    obtain ⟨u, hu, rfl⟩ := List.mem_map.1 ht
    exact (hm.2 _).2 ((rch_ts_iff hside hw).2 ((hl.2 u).1 hu)))
  have h2 := nodup_len (hinj (pw_nodup hm.1)) (m := l) (fun t ht => by
    obtain ⟨u, hu, rfl⟩ := List.mem_map.1 ht
    have := (hm.2 u).1 hu
    rw [← ts_ts u] at this
    exact (hl.2 _).2 ((rch_ts_iff hside hw).1 this))
  rw [List.length_map] at h1 h2
  omega

/-! ### Free moves -/
/-- More free moves for Left are never worse for Left. -/
def LW (g : Gr) (s : Sp) : Prop := s.2.2 = 0 ∧ Out g 1 s ∨ s.2.2 = 1 ∧ Out g 3 s
def RW (g : Gr) (s : Sp) : Prop := s.2.2 = 0 ∧ Out g 3 s ∨ s.2.2 = 1 ∧ Out g 1 s
theorem opts_n (a k k' w : Int) : opts g (a, k, w) = opts g (a, k', w) := rfl
theorem up {r : Int} {s : Sp} (h : Out g r s) : (s.2.2 = 0 ∨ s.2.2 = 1) → ∀ k', (r = 1 → s.2.2 = 0 → s.2.1 ≤ k' → Out g 1 (s.1, k', s.2.2)) ∧ (r = 3 → s.2.2 = 1 → s.2.1 ≤ k' → Out g 3 (s.1, k', s.2.2)) ∧ (r = 3 → s.2.2 = 0 → k' ≤ s.2.1 → Out g 3 (s.1, k', s.2.2)) ∧ (r = 1 → s.2.2 = 1 → k' ≤ s.2.1 → Out g 1 (s.1, k', s.2.2)) := by
  induction h with
  | @win s m hm ho ih =>
    obtain ⟨a, k, w⟩ := s
    intro hw k'
    dsimp only at *
    refine ⟨fun _ e hk => ?_, fun e => by omega, fun e => by omega, fun _ e hk => ?_⟩
    · subst e
      rcases mv_mem.1 hm with ⟨i, hi, rfl⟩ | ⟨hp, rfl⟩
      · exact .win (mv_mem.2 (.inl ⟨i, hi, rfl⟩)) ((ih (.inr rfl) k').2.1 rfl rfl hk)
      · simp only [stp] at hp
        simp at hp
        refine .win (mv_mem.2 (.inr ⟨by simp [stp]; omega, rfl⟩)) ?_
        have := (ih (.inr (by simp)) (k' - 1)).2.1 rfl (by simp) (by simp [stp]; omega)
        simpa [stp] using this
    · subst e
      rcases mv_mem.1 hm with ⟨i, hi, rfl⟩ | ⟨hp, rfl⟩
      · exact .win (mv_mem.2 (.inl ⟨i, hi, rfl⟩)) ((ih (.inl rfl) k').2.2.1 rfl rfl hk)
      · simp only [stp] at hp
        simp at hp
        refine .win (mv_mem.2 (.inr ⟨by simp [stp]; omega, rfl⟩)) ?_
        have := (ih (.inl (by simp)) (k' + 1)).2.2.1 rfl (by simp) (by simp [stp]; omega)
        simpa [stp] using this
  | @loss s hl ih =>
    obtain ⟨a, k, w⟩ := s
    intro hw k'
    dsimp only at *
    refine ⟨fun e => by omega, fun _ e hk => ?_, fun _ e hk => ?_, fun e => by omega⟩
    · subst e
      refine .loss fun m hm => ?_
      rcases mv_mem.1 hm with ⟨i, hi, rfl⟩ | ⟨hp, rfl⟩
      · exact (ih _ (mv_mem.2 (.inl ⟨i, hi, rfl⟩)) (.inl rfl) k').1 rfl rfl hk
      · simp only [stp] at hp
        simp at hp
        have := (ih (a, k + 1, 0) (mv_mem.2 (.inr ⟨by simp [stp]; omega, by simp [stp]⟩)) (.inl rfl) (k' + 1)).1 rfl (by simp) (by simp [stp]; omega)
        simpa [stp] using this
    · subst e
      refine .loss fun m hm => ?_
      rcases mv_mem.1 hm with ⟨i, hi, rfl⟩ | ⟨hp, rfl⟩
      · exact (ih _ (mv_mem.2 (.inl ⟨i, hi, rfl⟩)) (.inr rfl) k').2.2.2 rfl rfl hk
      · simp only [stp] at hp
        simp at hp
        have := (ih (a, k - 1, 1) (mv_mem.2 (.inr ⟨by simp [stp]; omega, by simp [stp]⟩)) (.inr rfl) (k' - 1)).2.2.2 rfl (by simp) (by simp [stp]; omega)
        simpa [stp] using this
theorem left_mono {a k k' w : Int} (hw : w = 0 ∨ w = 1) (hk : k ≤ k') : left g (a, k', w) ≤ left g (a, k, w) := by
  have a1 := left_eq1 (g := g) (s := (a, k, w)) hw
  have a3 := left_eq3 (g := g) (s := (a, k', w)) hw
  have b1 := left_eq1 (g := g) (s := (a, k', w)) hw
  have b3 := left_eq3 (g := g) (s := (a, k, w)) hw
  have c1 := left_cases g (a, k, w)
  have c2 := left_cases g (a, k', w)
  have h1 : left g (a, k, w) = 1 → left g (a, k', w) = 1 := fun h => by
    rcases a1.1 h with ⟨e, ho⟩ | ⟨e, ho⟩
    · exact b1.2 (.inl ⟨e, (up ho hw k').1 rfl e hk⟩)
    · exact b1.2 (.inr ⟨e, (up ho hw k').2.1 rfl e hk⟩)
  have h3 : left g (a, k', w) = 3 → left g (a, k, w) = 3 := fun h => by
    rcases a3.1 h with ⟨e, ho⟩ | ⟨e, ho⟩
    · exact b3.2 (.inl ⟨e, (up ho hw k).2.2.1 rfl e hk⟩)
    · exact b3.2 (.inr ⟨e, (up ho hw k).2.2.2 rfl e hk⟩)
  omega
/-! ### Bounds -/
/-- The greatest k from -8 on below hi for which p holds, or -9. -/
def loB (p : Int → Prop) (b : Int) : Prop := -9 ≤ b ∧ b ≤ 8 ∧ (-8 ≤ b → p b) ∧ ∀ k, b < k → k ≤ 8 → ¬ p k
def hiB (p : Int → Prop) (b : Int) : Prop := -8 ≤ b ∧ b ≤ 9 ∧ (b ≤ 8 → p b) ∧ ∀ k, k < b → -8 ≤ k → ¬ p k
theorem loB.uniq {p : Int → Prop} {a b : Int} (h : loB p a) (h' : loB p b) : a = b := by
  obtain ⟨h1, h2, h3, h4⟩ := h
  obtain ⟨g1, g2, g3, g4⟩ := h'
  rcases Int.lt_trichotomy a b with e | e | e
  · exact absurd (g3 (by omega)) (h4 b e g2)
  · exact e
  · exact absurd (h3 (by omega)) (g4 a e h2)
theorem hiB.uniq {p : Int → Prop} {a b : Int} (h : hiB p a) (h' : hiB p b) : a = b := by
  obtain ⟨h1, h2, h3, h4⟩ := h
  obtain ⟨g1, g2, g3, g4⟩ := h'
  rcases Int.lt_trichotomy a b with e | e | e
  · exact absurd (h3 (by omega)) (g4 a e h1)
  · exact e
  · exact absurd (g3 (by omega)) (h4 b e g1)
def LoP (g : Gr) (node : Int) (k : Int) : Prop := left g (node, -k, 1) ≠ 3
def HiP (g : Gr) (node : Int) (k : Int) : Prop := left g (node, -k, 0) ≠ 1
theorem lo_iff {node b k : Int} (h : loB (LoP g node) b) (hk : -8 ≤ k ∧ k ≤ 8) : LoP g node k ↔ k ≤ b := by
  obtain ⟨h1, h2, h3, h4⟩ := h
  refine ⟨fun hp => Decidable.byContradiction fun hn => h4 k (by omega) hk.2 hp, fun hle => ?_⟩
  have hb := h3 (by omega)
  unfold LoP at *
  have := left_mono (g := g) (a := node) (k := -b) (k' := -k) (w := 1) (.inr rfl) (by omega)
  have := left_cases g (node, -b, 1)
  have := left_cases g (node, -k, 1)
  omega
theorem hi_iff {node b k : Int} (h : hiB (HiP g node) b) (hk : -8 ≤ k ∧ k ≤ 8) : HiP g node k ↔ b ≤ k := by
  obtain ⟨h1, h2, h3, h4⟩ := h
  refine ⟨fun hp => Decidable.byContradiction fun hn => h4 k (by omega) hk.1 hp, fun hle => ?_⟩
  have hb := h3 (by omega)
  unfold HiP at *
  have := left_mono (g := g) (a := node) (k := -k) (k' := -b) (w := 0) (.inl rfl) (by omega)
  have := left_cases g (node, -b, 0)
  have := left_cases g (node, -k, 0)
  omega
theorem lo_ts {node b : Int} (h : loB (LoP g node) b) : hiB (HiP (tg g) node) (-b) := by
  have hp : ∀ k, HiP (tg g) node (-k) ↔ LoP g node k := fun k => by
    unfold HiP LoP
    have := left_ts (g := g) (s := (node, -k, 1)) (.inr rfl)
    have e : ts (node, -k, 1) = (node, - -k, 0) := rfl
    rw [e] at this
    rw [this]
    have := left_cases g (node, -k, 1)
    omega
  obtain ⟨h1, h2, h3, h4⟩ := h
  refine ⟨by omega, by omega, fun hb => (hp b).2 (h3 (by omega)), fun k h5 h6 => ?_⟩
  have := h4 (-k) (by omega) (by omega)
  rw [← hp] at this
  simpa using this
theorem hi_ts {node b : Int} (h : hiB (HiP g node) b) : loB (LoP (tg g) node) (-b) := by
  have hp : ∀ k, LoP (tg g) node (-k) ↔ HiP g node k := fun k => by
    unfold HiP LoP
    have := left_ts (g := g) (s := (node, -k, 0)) (.inl rfl)
    have e : ts (node, -k, 0) = (node, - -k, 1) := rfl
    rw [e] at this
    rw [this]
    have := left_cases g (node, -k, 0)
    omega
  obtain ⟨h1, h2, h3, h4⟩ := h
  refine ⟨by omega, by omega, fun hb => (hp b).2 (h3 (by omega)), fun k h5 h6 => ?_⟩
  have := h4 (-k) (by omega) (by omega)
  rw [← hp] at this
  simpa using this
end Go.Lp
end

