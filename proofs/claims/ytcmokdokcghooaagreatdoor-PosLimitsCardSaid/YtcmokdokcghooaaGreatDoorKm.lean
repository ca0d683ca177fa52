/-
  Lemmas for the proof of the statement of this claim: a part of the road, no statement of its own. Conditions: those that each lemma names.
-/
import Derived.Test.YtcmokdokcghooaaGreatDoorKf
import Derived.Lib.ItoaNum
import Derived.Test.YtcmokdokcghooaaGreatDoorKg
import Derived.Lib.AtoiAll
import Derived.Lib.Split
import Derived.Lib.SplitLaws
import Derived.Lib.Join
import Derived.Lib.IndexBytes
import Derived.Lib.Strings
section
/-
  Programs of steps, plainly.
-/
set_option linter.unusedVariables false
set_option maxHeartbeats 1000000
namespace Go.Pr
open Go Go.Sk
abbrev Stp := Int × Int
abbrev encP : Stp → List Value := fun s => [I s.1, I s.2]
instance : Enc encP 2 := ⟨fun _ => rfl, fun a v h => by
  simp only [encP, List.mem_cons, List.not_mem_nil, or_false] at h
  rcases h with rfl | rfl <;> rfl⟩
abbrev Sv (s : Stp) : Value := .agg #[I s.1, I s.2]
def word (op : Int) : List UInt8 :=
  if op = 1 then [103, 111] else if op = 2 then [115, 108, 105, 100, 101] else if op = 3 then [101, 109, 112, 116, 121] else if op = 4 then [101, 110, 101, 109, 121] else
  if op = 5 then [102, 114, 105, 101, 110, 100] else if op = 6 then [116, 97, 107, 101] else if op = 7 then [112, 117, 115, 104] else if op = 8 then [98, 101, 99, 111, 109, 101] else
  if op = 9 then [110, 101, 101, 100] else if op = 10 then [108, 111, 115, 101] else []
def num (op : Int) : Int := if op = 1 ∨ op = 2 ∨ op = 7 then 1 else if op = 8 then 2 else if op = 9 ∨ op = 10 then 3 else 0
def okOp (op : Int) : Bool := decide (1 ≤ op ∧ op ≤ 10)
def lim (d k r n : Int) : Int := if n = 0 then 1 else if n = 1 then d else if n = 2 then k else r
def stepB (s : Stp) (d k r : Int) : Bool := decide (1 ≤ s.1 ∧ s.1 ≤ 10 ∧ 0 ≤ s.2 ∧ s.2 < lim d k r (num s.1))
def isOp (op : Int) (s : Stp) : Bool := decide (s.1 = op)
def cnt (l : List Stp) (op : Int) : Nat := (l.filter (isOp op)).length
def allB (l : List Stp) (d k r : Int) : Bool := l.all fun s => stepB s d k r
def validB (l : List Stp) (d k r : Int) : Bool := decide (0 < l.length ∧ l.length ≤ 8 ∧ allB l d k r = true ∧ cnt l 6 ≤ 2 ∧ cnt l 7 ≤ 1 ∧ cnt l 8 ≤ 1)
def leadB (op : Int) : Bool := decide (op = 1 ∨ op = 2 ∨ op = 7)
theorem num_lead (op : Int) : decide (num op = 1) = leadB op := by
  unfold num leadB
  by_cases h1 : op = 1 ∨ op = 2 ∨ op = 7
  · simp [h1]
  · simp only [if_neg h1]
    split
    · simp [h1]
    · split <;> simp [h1]
theorem op_cases {op : Int} (h : 1 ≤ op ∧ op ≤ 10) : op = 1 ∨ op = 2 ∨ op = 3 ∨ op = 4 ∨ op = 5 ∨ op = 6 ∨ op = 7 ∨ op = 8 ∨ op = 9 ∨ op = 10 := by omega
theorem num_bd (op : Int) : 0 ≤ num op ∧ num op ≤ 3 := by unfold num; split <;> (try split) <;> (try split) <;> omega
theorem word_len (op : Int) : (word op).length ≤ 6 := by unfold word; repeat' split
                                                         all_goals decide
theorem cnt_nil (op : Int) : cnt [] op = 0 := rfl
theorem cnt_snoc (l : List Stp) (s : Stp) (op : Int) : cnt (l ++ [s]) op = cnt l op + if s.1 = op then 1 else 0 := by
  unfold cnt isOp
  rw [List.filter_append, List.length_append]
  congr 1
  by_cases h : s.1 = op <;> simp [h]
theorem cnt_le (l : List Stp) (op : Int) : cnt l op ≤ l.length := List.length_filter_le _ _
end Go.Pr
end

section
/-
  Games and positions, plainly: what is compared, sorted, found.
-/
set_option linter.unusedVariables false
set_option linter.unusedSectionVars false
set_option linter.unusedSimpArgs false
set_option maxHeartbeats 1000000
namespace Go.Ps
open Go Go.Sk Go.Pr
structure Kd where
  name : List UInt8
  progs : List (List Stp)
  keep : Bool
structure Gm where
  cells : Nat
  next : List (List Int)
  turn : List Int
  kinds : List Kd
  rights : Nat
  must : Bool
  clauses : List (Int × Int × Int × Int)
  blocked : Int
  endless : Int
structure Pt where
  c : List Int
  a : List Int
  b : List Int
  r : Int
  s : Int
deriving DecidableEq

/-! ### Comparisons -/
structure Lin {α : Type} (f : α → α → Int) : Prop where
  rng : ∀ x y, f x y = -1 ∨ f x y = 0 ∨ f x y = 1
  neg : ∀ x y, f y x = - f x y
  eq : ∀ x y, f x y = 0 ↔ x = y
  tr : ∀ x y z, f x y = -1 → f y z = -1 → f x z = -1
def cmpI (a b : Int) : Int := if a < b then -1 else if b < a then 1 else 0
def cmpL : List Int → List Int → Int
  | [], [] => 0
  | [], _ :: _ => -1
  | _ :: _, [] => 1
  | x :: l, y :: m => if cmpI x y ≠ 0 then cmpI x y else cmpL l m
def orL : List Int → Int
  | [] => 0
  | x :: r => if x ≠ 0 then x else orL r
def cmpP (p q : Pt) : Int := orL [cmpL p.c q.c, cmpL p.a q.a, cmpL p.b q.b, cmpI p.r q.r, cmpI p.s q.s]
theorem lin_cmpI : Lin cmpI where
  rng x y := by unfold cmpI; split <;> (try split) <;> omega
  neg x y := by unfold cmpI; repeat' split
                all_goals omega
  eq x y := by unfold cmpI; repeat' split
               all_goals omega
  tr x y z := by unfold cmpI; repeat' split
                 all_goals omega
theorem cmpL_rng : ∀ l m, cmpL l m = -1 ∨ cmpL l m = 0 ∨ cmpL l m = 1
  | [], [] => by simp [cmpL]
  | [], _ :: _ => by simp [cmpL]
  | _ :: _, [] => by simp [cmpL]
  | x :: l, y :: m => by
    unfold cmpL
    split
    · exact lin_cmpI.rng x y
    · exact cmpL_rng l m
theorem cmpL_neg : ∀ l m, cmpL m l = - cmpL l m
  | [], [] => by simp [cmpL]
  | [], _ :: _ => by simp [cmpL]
  | _ :: _, [] => by simp [cmpL]
  | x :: l, y :: m => by
    unfold cmpL
    have := lin_cmpI.neg x y
    by_cases h : cmpI x y = 0
    · rw [if_neg (by omega), if_neg (by omega)]; exact cmpL_neg l m
    · rw [if_pos (by omega), if_pos (by omega)]; exact this
theorem cmpL_eq : ∀ l m, cmpL l m = 0 ↔ l = m
  | [], [] => by simp [cmpL]
  | [], _ :: _ => by simp [cmpL]
  | _ :: _, [] => by simp [cmpL]
  | x :: l, y :: m => by
    unfold cmpL
    have h1 := lin_cmpI.eq x y
    have h2 := cmpL_eq l m
    by_cases h : cmpI x y = 0
    · rw [if_neg (by omega), h2]
      simp [h1.1 h]
    · rw [if_pos h]
      have : x ≠ y := fun e => h (h1.2 e)
      simp [h, this]
theorem cmpL_tr : ∀ l m n, cmpL l m = -1 → cmpL m n = -1 → cmpL l n = -1
  | [], [], _, h, _ => by simp [cmpL] at h
  | _ :: _, [], _, h, _ => by simp [cmpL] at h
  | [], _ :: _, [], _, h => by simp [cmpL] at h
  | _ :: _, _ :: _, [], _, h => by simp [cmpL] at h
  | [], _ :: _, _ :: _, _, _ => rfl
  | x :: l, y :: m, z :: n, h1, h2 => by
    unfold cmpL at *
    have a1 := lin_cmpI.rng x y
    have a2 := lin_cmpI.rng y z
    by_cases e1 : cmpI x y = 0
    · have := (lin_cmpI.eq x y).1 e1
      subst this
      rw [if_neg (by omega)] at h1
      by_cases e2 : cmpI x z = 0
      · rw [if_neg (by omega)] at h2 ⊢
        exact cmpL_tr l m n h1 h2
      · rw [if_pos e2] at h2 ⊢
        exact h2
    · rw [if_pos e1] at h1
      by_cases e2 : cmpI y z = 0
      · have := (lin_cmpI.eq y z).1 e2
        subst this
        rw [if_pos e1]
        exact h1
      · rw [if_pos e2] at h2
        have := lin_cmpI.tr x y z h1 h2
        rw [if_pos (by omega)]
        exact this
theorem lin_cmpL : Lin cmpL := ⟨cmpL_rng, cmpL_neg, cmpL_eq, cmpL_tr⟩
/-- First by one thing, then by another. -/
def lexF {α β : Type} (f : α → α → Int) (g : β → β → Int) (x y : α × β) : Int := if f x.1 y.1 ≠ 0 then f x.1 y.1 else g x.2 y.2
theorem lin_lex {α β : Type} {f : α → α → Int} {g : β → β → Int} (hf : Lin f) (hg : Lin g) : Lin (lexF f g) where
  rng x y := by unfold lexF; split
                · exact hf.rng _ _
                · exact hg.rng _ _
  neg x y := by
    unfold lexF
    have := hf.neg x.1 y.1
    by_cases h : f x.1 y.1 = 0
    · rw [if_neg (by omega), if_neg (by omega)]; exact hg.neg _ _
    · rw [if_pos (by omega), if_pos (by omega)]; exact this
  eq x y := by
    unfold lexF
    have h1 := hf.eq x.1 y.1
    have h2 := hg.eq x.2 y.2
    obtain ⟨x1, x2⟩ := x
    obtain ⟨y1, y2⟩ := y
    dsimp only at *
    by_cases h : f x1 y1 = 0
    · rw [if_neg (by omega), h2, Prod.mk.injEq]
      simp [h1.1 h]
    · rw [if_pos h, Prod.mk.injEq]
      have : x1 ≠ y1 := fun e => h (h1.2 e)
      simp [h, this]
  tr x y z h1 h2 := by
    unfold lexF at *
    by_cases e1 : f x.1 y.1 = 0
    · have e := (hf.eq _ _).1 e1
      rw [if_neg (by omega)] at h1
      rw [e]
      by_cases e2 : f y.1 z.1 = 0
      · rw [if_neg (by omega)] at h2 ⊢
        exact hg.tr _ _ _ h1 h2
      · rw [if_pos e2] at h2 ⊢
        exact h2
    · rw [if_pos e1] at h1
      by_cases e2 : f y.1 z.1 = 0
      · have e := (hf.eq _ _).1 e2
        rw [← e, if_pos e1]
        exact h1
      · rw [if_pos e2] at h2
        have := hf.tr _ _ _ h1 h2
        rw [if_pos (by omega)]
        exact this
theorem Lin.comap {α β : Type} {f : β → β → Int} (hf : Lin f) (k : α → β) (hk : ∀ x y, k x = k y → x = y) : Lin (fun x y => f (k x) (k y)) where
  rng x y := hf.rng _ _
  neg x y := hf.neg _ _
  eq x y := (hf.eq _ _).trans ⟨hk x y, fun e => by rw [e]⟩
  tr x y z := hf.tr _ _ _
theorem lin_cmpP : Lin cmpP := by
  have h := (lin_lex lin_cmpL (lin_lex lin_cmpL (lin_lex lin_cmpL (lin_lex lin_cmpI lin_cmpI)))).comap (fun p : Pt => (p.c, p.a, p.b, p.r, p.s)) (fun x y e => by
    cases x; cases y; simp at e; simp [e])
  have e : cmpP = fun x y => lexF cmpL (lexF cmpL (lexF cmpL (lexF cmpI cmpI))) (x.c, x.a, x.b, x.r, x.s) (y.c, y.a, y.b, y.r, y.s) := by
    funext x y
    unfold cmpP lexF orL orL orL orL orL orL
    dsimp only
    repeat' split
    all_goals first | rfl | omega
  rw [e]
  exact h
theorem Lin.refl {α : Type} {f : α → α → Int} (h : Lin f) (x : α) : f x x = 0 := (h.eq x x).2 rfl
theorem Lin.swo {α : Type} {f : α → α → Int} (h : Lin f) : Sort.SWO (Proofs.ltOf f) where
  irrefl x := by unfold Proofs.ltOf; rw [h.refl]; rfl
  trans x y z h1 h2 := by
    unfold Proofs.ltOf at *
    simp only [decide_eq_true_eq] at *
    have a := h.rng x y
    have b := h.rng y z
    rw [h.tr x y z (by omega) (by omega)]
    decide
  ntrans x y z h1 h2 := by
    unfold Proofs.ltOf at *
    simp only [decide_eq_false_iff_not] at *
    intro h3
    have a := h.rng x y
    have b := h.rng y z
    have c := h.rng x z
    have n1 := h.neg x y
    have n2 := h.neg y z
    have n3 := h.neg x z
    by_cases e1 : f x y = 0
    · rw [(h.eq x y).1 e1] at h3; omega
    · by_cases e2 : f y z = 0
      · rw [← (h.eq y z).1 e2] at h3; omega
      · have := h.tr z y x (by omega) (by omega)
        omega

/-! ### Sorted lists -/
def Srt {α : Type} (f : α → α → Int) (l : List α) : Prop := l.Pairwise fun x y => f x y = -1
theorem Srt.ext {α : Type} {f : α → α → Int} (h : Lin f) : ∀ {l m : List α}, Srt f l → Srt f m → (∀ x, x ∈ l ↔ x ∈ m) → l = m
  | [], [], _, _, _ => rfl
  | [], y :: m, _, _, he => by have := (he y).2 (by simp); simp at this
  | x :: l, [], _, _, he => by have := (he x).1 (by simp); simp at this
  | x :: l, y :: m, hl, hm, he => by
    have hl' := List.pairwise_cons.1 hl
    have hm' := List.pairwise_cons.1 hm
    have exy : x = y := by
      rcases List.mem_cons.1 ((he x).1 (by simp)) with e | e1
      · exact e
      rcases List.mem_cons.1 ((he y).2 (by simp)) with e | e2
      · exact e.symm
      have a := hm'.1 x e1
      have b := hl'.1 y e2
      have := h.neg x y
      omega
    subst exy
    congr 1
    refine Srt.ext h hl'.2 hm'.2 fun z => ?_
    have ir : ∀ {l : List α}, (∀ a' ∈ l, f x a' = -1) → x ∉ l := fun hx hmem => by have := hx x hmem; rw [h.refl] at this; omega
    constructor
    · intro hz
      rcases List.mem_cons.1 ((he z).1 (by simp [hz])) with e | e
      · subst e; exact absurd hz (ir hl'.1)
      · exact e
    · intro hz
      rcases List.mem_cons.1 ((he z).2 (by simp [hz])) with e | e
      · subst e; exact absurd hz (ir hm'.1)
      · exact e
def insU {α : Type} (f : α → α → Int) (x : α) : List α → List α
  | [] => [x]
  | y :: r => if f x y = -1 then x :: y :: r else if f x y = 0 then y :: r else y :: insU f x r
def sortU {α : Type} (f : α → α → Int) (l : List α) : List α := l.foldr (insU f) []
section
variable {α : Type} {f : α → α → Int} (h : Lin f)
include h
theorem mem_insU (x z : α) : ∀ l, z ∈ insU f x l ↔ z = x ∨ z ∈ l
  | [] => by simp [insU]
  | y :: r => by
    unfold insU
    split
    · simp
    · split
      · rename_i e
        rw [(h.eq x y).1 e]; simp
      · simp only [List.mem_cons, mem_insU x z r]
        constructor
        · rintro (a | a | a)
          · exact .inr (.inl a)
          · exact .inl a
          · exact .inr (.inr a)
        · rintro (a | a | a)
          · exact .inr (.inl a)
          · exact .inl a
          · exact .inr (.inr a)
theorem srt_insU (x : α) : ∀ l, Srt f l → Srt f (insU f x l)
  | [], _ => by simp [insU, Srt]
  | y :: r, hs => by
    have hs' := List.pairwise_cons.1 hs
    unfold insU
    split
    · rename_i e
      refine List.pairwise_cons.2 ⟨fun z hz => ?_, hs⟩
      rcases List.mem_cons.1 hz with rfl | hz
      · exact e
      · exact h.tr _ _ _ e (hs'.1 z hz)
    · split
      · exact hs
      · refine List.pairwise_cons.2 ⟨fun z hz => ?_, srt_insU x r hs'.2⟩
        rcases (mem_insU h x z r).1 hz with rfl | hz
        · have a := h.rng z y
          have := h.neg z y
          omega
        · exact hs'.1 z hz
theorem srt_sortU : ∀ l, Srt f (sortU f l)
  | [] => List.Pairwise.nil
  | x :: r => srt_insU h x _ (srt_sortU r)
theorem mem_sortU (z : α) : ∀ l, z ∈ sortU f l ↔ z ∈ l
  | [] => by simp [sortU]
  | x :: r => by
    show z ∈ insU f x (sortU f r) ↔ _
    rw [mem_insU h, mem_sortU z r, List.mem_cons]
theorem sortU_uniq {l m : List α} (hs : Srt f m) (hm : ∀ z, z ∈ m ↔ z ∈ l) : m = sortU f l := Srt.ext h hs (srt_sortU h l) fun z => (hm z).trans (mem_sortU h z l).symm
theorem sortU_len : ∀ l, (sortU f l).length ≤ l.length
  | [] => Nat.le_refl _
  | x :: r => by
    have ih := sortU_len r
    have : ∀ m, (insU f x m).length ≤ m.length + 1 := by
      intro m
      induction m with
      | nil => simp [insU]
      | cons y r ih => unfold insU; repeat' split
                       all_goals simp
                       all_goals omega
    have := this (sortU f r)
    show (insU f x (sortU f r)).length ≤ _
    simp only [List.length_cons]
    omega
theorem sortU_srt {l : List α} (hs : Srt f l) : sortU f l = l := (sortU_uniq h hs fun z => Iff.rfl).symm
/-- A list in order, its doubles left out. -/
theorem mem_cl (e : α → α → Bool) (he : ∀ x y, e x y = true ↔ x = y) (z : α) : ∀ (l : List α) (p : α), z ∈ p :: cl e p l ↔ z ∈ p :: l
  | [], p => by simp [cl]
  | y :: r, p => by
    unfold cl
    have ih := mem_cl e he z r y
    simp only [List.mem_cons] at ih ⊢
    split
    · rename_i hh
      have := (he y p).1 hh
      subst this
      rw [ih]
      constructor
      · rintro (a | a)
        · exact .inl a
        · exact .inr (.inr a)
      · rintro (a | a | a)
        · exact .inl a
        · exact .inl a
        · exact .inr a
    · simp only [List.mem_cons]
      rw [ih]
theorem mem_compact (e : α → α → Bool) (he : ∀ x y, e x y = true ↔ x = y) (z : α) : ∀ (l : List α), z ∈ compactL e l ↔ z ∈ l
  | [] => Iff.rfl
  | x :: r => mem_cl h e he z r x
theorem srt_cl (e : α → α → Bool) (he : ∀ x y, e x y = true ↔ x = y) : ∀ (l : List α) (p : α), (p :: l).Pairwise (fun a b => ¬ f b a < 0) → Srt f (p :: cl e p l)
  | [], p, _ => by simp [cl, Srt]
  | y :: r, p, hp => by
    have hp1 := List.pairwise_cons.1 hp
    have hp2 := List.pairwise_cons.1 hp1.2
    unfold cl
    split
    · rename_i hh
      have := (he y p).1 hh
      subst this
      exact srt_cl e he r y hp1.2
    · rename_i hh
      have ih := srt_cl e he r y hp1.2
      have ih' := List.pairwise_cons.1 ih
      have hpy : f p y = -1 := by
        have a := hp1.1 y (by simp)
        have b := h.rng p y
        have c := h.neg p y
        have : f p y ≠ 0 := fun e0 => hh ((he y p).2 ((h.eq p y).1 e0).symm)
        omega
      refine List.pairwise_cons.2 ⟨fun z hz => ?_, ih⟩
      rcases List.mem_cons.1 hz with rfl | hz
      · exact hpy
      · exact h.tr _ _ _ hpy (ih'.1 z hz)
theorem compact_sortU (e : α → α → Bool) (he : ∀ x y, e x y = true ↔ x = y) {l m : List α} (hp : l.Pairwise (fun a b => ¬ f b a < 0)) (hm : ∀ z, z ∈ l ↔ z ∈ m) : compactL e l = sortU f m := by
  refine sortU_uniq h ?_ fun z => (mem_compact h e he z l).trans (hm z)
  cases l with
  | nil => exact List.Pairwise.nil
  | cons x r => exact srt_cl h e he r x hp
end
/-- Where a thing is found. -/
def FindR (l : List Pt) (p : Pt) (r : Int) : Prop := (∃ (i : Nat) (h : i < l.length), r = i ∧ l[i] = p) ∨ (r = -1 ∧ p ∉ l)
theorem Srt.nodup {l : List Pt} (hs : Srt cmpP l) {i j : Nat} (hi : i < l.length) (hj : j < l.length) (e : l[i] = l[j]) : i = j := by
  have hp := List.pairwise_iff_getElem.1 hs
  rcases Nat.lt_trichotomy i j with h | h | h
  · have := hp i j hi hj h
    rw [e, lin_cmpP.refl] at this
    omega
  · exact h
  · have := hp j i hj hi h
    rw [e, lin_cmpP.refl] at this
    omega
theorem FindR.uniq {l : List Pt} {p : Pt} {r r' : Int} (hs : Srt cmpP l) (h : FindR l p r) (h' : FindR l p r') : r = r' := by
  rcases h with ⟨i, hi, rfl, e⟩ | ⟨rfl, hn⟩ <;> rcases h' with ⟨j, hj, rfl, e'⟩ | ⟨rfl, hn'⟩
  · rw [hs.nodup hi hj (e.trans e'.symm)]
  · exact absurd (e ▸ List.getElem_mem hi) hn'
  · exact absurd (e' ▸ List.getElem_mem hj) hn
  · rfl
end Go.Ps
end

section
/-
  Games and positions as values.
-/
set_option linter.unusedVariables false
namespace Go.Ps
open Go Go.Sk Go.Pr
/-! ### Positions -/
abbrev PosH := SlH × SlH × SlH × Int × Int
abbrev ePos : PosH → List Value := fun x => [slv x.1, slv x.2.1, slv x.2.2.1, I x.2.2.2.1, I x.2.2.2.2]
instance : Enc ePos 5 := ⟨fun _ => rfl, fun a v h => by
  simp only [ePos, List.mem_cons, List.not_mem_nil, or_false] at h
  rcases h with rfl | rfl | rfl | rfl | rfl <;> rfl⟩
structure posR (h : Hp) (x : PosH) (p : Pt) : Prop where
  c : RdE h (slv x.1) eInt 1 p.c
  a : RdE h (slv x.2.1) eInt 1 p.a
  b : RdE h (slv x.2.2.1) eInt 1 p.b
  r : x.2.2.2.1 = p.r
  s : x.2.2.2.2 = p.s
  lc : p.c.length ≤ 4611686018427387904
  la : p.a.length ≤ 4611686018427387904
  lb : p.b.length ≤ 4611686018427387904
theorem posR.mono {h h' : Hp} {x : PosH} {p : Pt} (hle : Hle h h') (hp : posR h x p) : posR h' x p := ⟨hp.c.mono hle, hp.a.mono hle, hp.b.mono hle, hp.r, hp.s, hp.lc, hp.la, hp.lb⟩
instance : RelM posR := ⟨fun hle hp => posR.mono hle hp⟩
abbrev vPos (x : PosH) : Value := .agg #[slv x.1, slv x.2.1, slv x.2.2.1, I x.2.2.2.1, I x.2.2.2.2]
/-! ### Kinds, clauses, games -/
abbrev KdH := List UInt8 × SlH × Bool
abbrev eKd : KdH → List Value := fun x => [Str x.1, slv x.2.1, .bool x.2.2]
instance : Enc eKd 3 := ⟨fun _ => rfl, fun a v h => by
  simp only [eKd, List.mem_cons, List.not_mem_nil, or_false] at h
  rcases h with rfl | rfl | rfl <;> rfl⟩
def progR : Hp → SlH → List Stp → Prop := fun h x p => RdE h (slv x) encP 2 p
instance : RelM progR := ⟨fun hle hr => RdE.mono hle hr⟩
structure kdR (h : Hp) (x : KdH) (k : Kd) : Prop where
  n : x.1 = k.name
  p : RdF h (slv x.2.1) eSlH 1 progR k.progs
  k : x.2.2 = k.keep
theorem kdR.mono {h h' : Hp} {x : KdH} {k : Kd} (hle : Hle h h') (hp : kdR h x k) : kdR h' x k := ⟨hp.n, hp.p.mono hle, hp.k⟩
instance : RelM kdR := ⟨fun hle hp => kdR.mono hle hp⟩
abbrev ClH := Int × Int × Int × Int
abbrev eCl : ClH → List Value := fun x => [I x.1, I x.2.1, I x.2.2.1, I x.2.2.2]
instance : Enc eCl 4 := ⟨fun _ => rfl, fun a v h => by
  simp only [eCl, List.mem_cons, List.not_mem_nil, or_false] at h
  rcases h with rfl | rfl | rfl | rfl <;> rfl⟩
abbrev GmH := SlH × SlH × SlH × SlH
abbrev vGm (g : Gm) (x : GmH) : Value := .agg #[I g.cells, slv x.1, slv x.2.1, slv x.2.2.1, I g.rights, .bool g.must, slv x.2.2.2, I g.blocked, I g.endless]
structure gmR (h : Hp) (x : GmH) (g : Gm) : Prop where
  n : RdF h (slv x.1) eSlH 1 intsR g.next
  t : RdE h (slv x.2.1) eInt 1 g.turn
  k : RdF h (slv x.2.2.1) eKd 3 kdR g.kinds
  c : RdE h (slv x.2.2.2) eCl 4 g.clauses
theorem gmR.mono {h h' : Hp} {x : GmH} {g : Gm} (hle : Hle h h') (hp : gmR h x g) : gmR h' x g := ⟨hp.n.mono hle, hp.t.mono hle, hp.k.mono hle, hp.c.mono hle⟩
/-! ### What is asked of a game -/
def nameA : List UInt8 := [97]
def nameB : List UInt8 := [98, 101, 101]
def isRes (n : Int) : Prop := 1 ≤ n ∧ n ≤ 3
def rightC (cells kinds : Nat) (c : ClH) : Prop := isRes c.2.2.2 ∧
  ((c.1 = 1 ∧ 0 ≤ c.2.1 ∧ c.2.1 < kinds ∧ c.2.2.1 = 0) ∨ (c.1 = 2 ∧ 0 ≤ c.2.1 ∧ c.2.1 < kinds ∧ 0 ≤ c.2.2.1 ∧ c.2.2.1 < cells) ∨ (c.1 = 3 ∧ c.2.1 = 0 ∧ 0 ≤ c.2.2.1 ∧ c.2.2.1 ≤ 64))
structure GoodB (cells : Nat) (next : List (List Int)) (turn : List Int) : Prop where
  c1 : 1 ≤ cells
  c9 : cells ≤ 9
  d1 : 1 ≤ next.length
  d8 : next.length ≤ 8
  tl : turn.length = next.length
  rl : ∀ l ∈ next, l.length = cells
  rc : ∀ l ∈ next, ∀ c ∈ l, -1 ≤ c ∧ c < cells
  t0 : ∀ d (h : d < turn.length), 0 ≤ turn[d] ∧ turn[d] < next.length
  tt : ∀ d (h : d < turn.length), turn.getD turn[d].toNat 0 = d
structure GoodK (dirs rights : Nat) (kinds : List Kd) : Prop where
  l1 : 1 ≤ kinds.length
  l2 : kinds.length ≤ 2
  nm : ∀ i (h : i < kinds.length), kinds[i].name = if i = 0 then nameA else nameB
  pl : ∀ k ∈ kinds, k.progs.length ≤ 4
  pv : ∀ k ∈ kinds, ∀ p ∈ k.progs, validB p dirs kinds.length rights = true ∧ p.length ≤ 1000000
structure GoodG (g : Gm) : Prop where
  b : GoodB g.cells g.next g.turn
  k : GoodK g.next.length g.rights g.kinds
  r : g.rights ≤ 2
  cl : g.clauses.length ≤ 3
  cr : ∀ c ∈ g.clauses, rightC g.cells g.kinds.length c
  bl : isRes g.blocked
  en : isRes g.endless
/-! ### Valid positions -/
def handB : List Kd → List Int → Bool
  | [], [] => true
  | k :: ks, n :: l => decide (0 ≤ n ∧ n ≤ 8 ∧ (0 < n → k.keep = true)) && handB ks l
  | _, _ => false
def inC (K : Nat) (n : Int) : Bool := decide (0 ≤ n ∧ n ≤ 2 * K)
def validP (g : Gm) (p : Pt) : Bool := decide (p.c.length = g.cells) && (p.c.all (inC g.kinds.length) && (handB g.kinds p.a && (handB g.kinds p.b && (decide (0 ≤ p.r ∧ p.r < 2 ^ g.rights) && decide (p.s = 0 ∨ p.s = 1)))))
theorem handB_len : ∀ {ks : List Kd} {l : List Int}, handB ks l = true → l.length = ks.length
  | [], [], _ => rfl
  | [], _ :: _, h => by simp [handB] at h
  | _ :: _, [], h => by simp [handB] at h
  | k :: ks, n :: l, h => by
    unfold handB at h
    simp only [Bool.and_eq_true] at h
    simp [handB_len h.2]
theorem handB_drop {ks : List Kd} {l : List Int} {i : Nat} (h1 : i < ks.length) (h2 : i < l.length) : handB (ks.drop i) (l.drop i) = (decide (0 ≤ l[i] ∧ l[i] ≤ 8 ∧ (0 < l[i] → ks[i].keep = true)) && handB (ks.drop (i + 1)) (l.drop (i + 1))) := by
  rw [List.drop_eq_getElem_cons h1, List.drop_eq_getElem_cons h2]
  rfl
theorem handB_end {ks : List Kd} {l : List Int} {i : Nat} (h1 : ks.length ≤ i) (h2 : l.length ≤ i) : handB (ks.drop i) (l.drop i) = true := by
  rw [List.drop_eq_nil_of_le h1, List.drop_eq_nil_of_le h2]
  rfl
theorem validP_eq (g : Gm) (p : Pt) : validP g p = ((decide (p.c.length = g.cells) && (handB g.kinds p.a && (handB g.kinds p.b && (decide (0 ≤ p.r ∧ p.r < 2 ^ g.rights) && decide (p.s = 0 ∨ p.s = 1))))) && p.c.all (inC g.kinds.length)) := by
  unfold validP
  generalize decide (p.c.length = g.cells) = b1
  generalize p.c.all (inC g.kinds.length) = b2
  generalize handB g.kinds p.a = b3
  generalize handB g.kinds p.b = b4
  generalize decide (0 ≤ p.r ∧ p.r < 2 ^ g.rights) = b5
  generalize decide (p.s = 0 ∨ p.s = 1) = b6
  cases b1 <;> cases b2 <;> cases b3 <;> cases b4 <;> cases b5 <;> cases b6 <;> rfl
/-! ### Counting -/
def manB (side : Int) (k : Nat) (n : Int) : Bool := decide (0 < n ∧ (n - 1) % 2 = side ∧ (n - 1) / 2 = k)
def counts (l : List Int) (K : Nat) (side : Int) : List Int := (List.range K).map fun k => ((l.filter (manB side k)).length : Int)
theorem counts_len (l : List Int) (K : Nat) (side : Int) : (counts l K side).length = K := by simp [counts]
theorem counts_nil (K : Nat) (side : Int) : counts [] K side = List.replicate K 0 := by
  unfold counts
  apply List.ext_getElem
  · simp
  · intro i h1 h2; simp
theorem counts_get (l : List Int) (K : Nat) (side : Int) (k : Nat) (hk : k < (counts l K side).length) : (counts l K side)[k] = ((l.filter (manB side k)).length : Int) := by simp [counts]
theorem counts_no (l : List Int) (K : Nat) (side n : Int) (h : ¬ (0 < n ∧ (n - 1) % 2 = side)) : counts (l ++ [n]) K side = counts l K side := by
  unfold counts
  apply List.map_congr_left
  intro k _
  rw [List.filter_append]
  have : manB side k n = false := decide_eq_false (fun hh => h ⟨hh.1, hh.2.1⟩)
  simp [this]
theorem counts_yes (l : List Int) (K : Nat) (side n : Int) (k : Nat) (h0 : 0 < n) (h1 : (n - 1) % 2 = side) (h2 : (n - 1) / 2 = k) (hk : k < (counts l K side).length) : counts (l ++ [n]) K side = (counts l K side).set k ((counts l K side)[k] + 1) := by
  apply List.ext_getElem
  · simp [counts_len]
  · intro j q1 q2
    have q3 : j < (counts l K side).length := by simpa using q2
    rw [counts_get, List.getElem_set]
    rw [List.filter_append]
    by_cases e : k = j
    · subst e
      have : manB side k n = true := decide_eq_true ⟨h0, h1, h2⟩
      rw [if_pos rfl, counts_get]
      simp [this]
    · have : manB side j n = false := decide_eq_false (fun hh => e (by omega))
      rw [if_neg e, counts_get _ _ _ _ q3]
      simp [this]
/-! ### Keys -/
def numsP (p : Pt) : List Int := p.c ++ p.a ++ p.b ++ [p.r, p.s]
def keyP (p : Pt) : List UInt8 := (numsP p).map byt
def smallP (p : Pt) : Prop := p.c.length ≤ 1100000 ∧ p.a.length ≤ 1100000 ∧ p.b.length ≤ 1100000
end Go.Ps
end

section
/-
  Texts of positions, plainly.
-/
set_option linter.unusedVariables false
set_option maxHeartbeats 1000000
namespace Go.Ps
open Go Go.Sk
/-- Cut at each stroke. -/
def spl : List UInt8 → List (List UInt8)
  | [] => [[]]
  | c :: r => if c = 47 then [] :: spl r else match spl r with
    | [] => [[c]]
    | a :: t => (c :: a) :: t
theorem spl_cons (c : UInt8) (r : List UInt8) : spl (c :: r) = if c = 47 then [] :: spl r else match spl r with
    | [] => [[c]]
    | a :: t => (c :: a) :: t := by conv => lhs; unfold spl
theorem spl_ne : ∀ l, spl l ≠ []
  | [] => by simp [spl]
  | c :: r => by
    unfold spl
    split
    · simp
    · split <;> simp
theorem spl_none : ∀ (a : List UInt8), (∀ c ∈ a, c ≠ 47) → spl a = [a]
  | [], _ => rfl
  | c :: a, h => by
    unfold spl
    rw [if_neg (h c (by simp)), spl_none a (fun c hc => h c (by simp [hc]))]
theorem spl_gap : ∀ (a b : List UInt8), (∀ c ∈ a, c ≠ 47) → spl (a ++ 47 :: b) = a :: spl b
  | [], b, _ => by simp [spl]
  | c :: a, b, h => by
    show spl (c :: (a ++ 47 :: b)) = _
    rw [spl_cons, if_neg (h c (by simp)), spl_gap a b (fun c hc => h c (by simp [hc]))]
theorem first_stroke : ∀ (s : List UInt8), (∀ c ∈ s, c ≠ 47) ∨ ∃ a b, s = a ++ 47 :: b ∧ ∀ c ∈ a, c ≠ 47
  | [] => .inl (by simp)
  | c :: r => by
    by_cases h : c = 47
    · exact .inr ⟨[], r, by rw [h]; rfl, by simp⟩
    · rcases first_stroke r with h1 | ⟨a, b, h1, h2⟩
      · left
        intro x hx
        rcases List.mem_cons.1 hx with rfl | hx
        · exact h
        · exact h1 x hx
      · right
        refine ⟨c :: a, b, by rw [h1]; rfl, ?_⟩
        intro x hx
        rcases List.mem_cons.1 hx with rfl | hx
        · exact h
        · exact h2 x hx
theorem iB_gap : ∀ (a b : List UInt8), (∀ c ∈ a, c ≠ 47) → Lib.indexByte (a ++ 47 :: b) 47 = a.length
  | [], b, _ => rfl
  | c :: a, b, h => by
    have hc := h c (by simp)
    have ih := iB_gap a b (fun c hc => h c (by simp [hc]))
    show Lib.indexByte (c :: (a ++ 47 :: b)) 47 = _
    simp only [Lib.indexByte, ih]
    rw [if_neg (by simpa using hc), if_neg (by simp)]
    simp
theorem splitK_spl : ∀ (k : Nat) (s : List UInt8), s.count 47 = k → Lib.splitK [47] 0 k s = spl s
  | 0, s, h => by
    rw [spl_none s (fun c hc e => by
      subst e
      have := List.count_pos_iff.2 hc
      omega)]
    rfl
  | k + 1, s, h => by
    rcases first_stroke s with h1 | ⟨a, b, rfl, h2⟩
    · have : s.count 47 = 0 := List.count_eq_zero.2 (fun hc => h1 47 hc rfl)
      omega
    · have hi : Lib.index (a ++ 47 :: b) [47] = a.length := by rw [Lib.index_one, iB_gap a b h2]
      have hk : b.count 47 = k := by
        rw [List.count_append, List.count_cons_self] at h
        have : a.count 47 = 0 := List.count_eq_zero.2 (fun hc => h2 47 hc rfl)
        omega
      unfold Lib.splitK
      rw [hi, spl_gap a b h2, if_neg (by simp)]
      have e1 : (a ++ 47 :: b).take (((a.length : Int)).toNat + 0) = a := by simp
      have e2 : (a ++ 47 :: b).drop (((a.length : Int)).toNat + ([47] : List UInt8).length) = b := by simp
      rw [e1, e2, splitK_spl k b hk]
theorem split_spl (s : List UInt8) : Lib.split s [47] = spl s := by
  unfold Lib.split
  rw [Lib.count_one]
  exact splitK_spl _ s rfl
theorem spl_join : ∀ (ws : List (List UInt8)), ws ≠ [] → (∀ w ∈ ws, ∀ c ∈ w, c ≠ 47) → spl (Lib.join ws [47]) = ws
  | [], h, _ => absurd rfl h
  | [x], _, h => by rw [Lib.join_one]; exact spl_none x (h x (by simp))
  | x :: y :: r, _, h => by
    have ih := spl_join (y :: r) (by simp) (fun w hw => h w (by simp [hw]))
    rw [Lib.join_cons] at ih
    rw [Lib.join_cons]
    have : Lib.joinTail [47] (y :: r) = 47 :: (y ++ Lib.joinTail [47] r) := by simp [Lib.joinTail]
    rw [this, spl_gap x _ (h x (by simp)), ih]

theorem spl_lens : ∀ (s : List UInt8), (spl s).length ≤ s.length + 1 ∧ ∀ l ∈ spl s, l.length ≤ s.length
  | [] => by simp [spl]
  | c :: r => by
    obtain ⟨h1, h2⟩ := spl_lens r
    unfold spl
    split
    · refine ⟨by simp; omega, fun l hl => ?_⟩
      rcases List.mem_cons.1 hl with rfl | hl
      · simp
      · have := h2 l hl; simp; omega
    · cases hs : spl r with
      | nil => exact absurd hs (spl_ne r)
      | cons a t =>
        rw [hs] at h1 h2
        refine ⟨by simp at h1 ⊢; omega, fun l hl => ?_⟩
        rcases List.mem_cons.1 hl with rfl | hl
        · have := h2 a (by simp); simp; omega
        · have := h2 l (by simp [hl]); simp; omega
def dgt (n : Int) : UInt8 := byt (48 + n)
def sgn (n : Int) : UInt8 := if n = 0 then 46 else if n % 2 = 1 then byt (65 + (n - 1) / 2) else byt (97 + (n - 1) / 2)
def rdS (b : UInt8) : Int := if b.toNat = 46 then 0 else if 65 ≤ b.toNat ∧ b.toNat ≤ 90 then 1 + 2 * ((b.toNat : Int) - 65) else if 97 ≤ b.toNat ∧ b.toNat ≤ 122 then 2 + 2 * ((b.toNat : Int) - 97) else -1
def rdD (b : UInt8) : Int := (b.toNat : Int) - 48
theorem int12 {n : Int} (h : 0 ≤ n ∧ n ≤ 12) : n = 0 ∨ n = 1 ∨ n = 2 ∨ n = 3 ∨ n = 4 ∨ n = 5 ∨ n = 6 ∨ n = 7 ∨ n = 8 ∨ n = 9 ∨ n = 10 ∨ n = 11 ∨ n = 12 := by omega
theorem rdS_sgn {n : Int} (h : 0 ≤ n ∧ n ≤ 12) : rdS (sgn n) = n ∧ sgn n ≠ 47 := by
  rcases int12 h with rfl | rfl | rfl | rfl | rfl | rfl | rfl | rfl | rfl | rfl | rfl | rfl | rfl <;> decide
theorem rdD_dgt {n : Int} (h : 0 ≤ n ∧ n ≤ 9) : rdD (dgt n) = n ∧ dgt n ≠ 47 := by
  rcases int12 ⟨h.1, by omega⟩ with rfl | rfl | rfl | rfl | rfl | rfl | rfl | rfl | rfl | rfl | rfl | rfl | rfl <;> first | decide | omega
theorem atoi_dgt {n : Int} (h : 0 ≤ n ∧ n ≤ 9) : Lib.atoiAll [dgt n] = .ok n := by
  rcases int12 ⟨h.1, by omega⟩ with rfl | rfl | rfl | rfl | rfl | rfl | rfl | rfl | rfl | rfl | rfl | rfl | rfl <;> first | decide +kernel | omega
def txt (p : Pt) : List UInt8 := p.c.map sgn ++ 47 :: (p.a.map dgt ++ 47 :: (p.b.map dgt ++ [47, dgt p.r, 47, dgt p.s]))
structure OkT (p : Pt) : Prop where
  c : ∀ n ∈ p.c, 0 ≤ n ∧ n ≤ 12
  a : ∀ n ∈ p.a, 0 ≤ n ∧ n ≤ 9
  b : ∀ n ∈ p.b, 0 ≤ n ∧ n ≤ 9
  r : 0 ≤ p.r ∧ p.r ≤ 9
  s : 0 ≤ p.s ∧ p.s ≤ 9
theorem txt_join (p : Pt) : txt p = Lib.join [p.c.map sgn, p.a.map dgt, p.b.map dgt, [dgt p.r], [dgt p.s]] [47] := by
  unfold txt
  rw [Lib.join_cons]
  simp [Lib.joinTail]
theorem spl_txt {p : Pt} (h : OkT p) : spl (txt p) = [p.c.map sgn, p.a.map dgt, p.b.map dgt, [dgt p.r], [dgt p.s]] := by
  rw [txt_join]
  refine spl_join _ (by simp) ?_
  intro w hw x hx
  simp only [List.mem_cons, List.not_mem_nil, or_false] at hw
  rcases hw with rfl | rfl | rfl | rfl | rfl
  · obtain ⟨n, hn, rfl⟩ := List.mem_map.1 hx; exact (rdS_sgn (h.c n hn)).2
  · obtain ⟨n, hn, rfl⟩ := List.mem_map.1 hx; exact (rdD_dgt (h.a n hn)).2
  · obtain ⟨n, hn, rfl⟩ := List.mem_map.1 hx; exact (rdD_dgt (h.b n hn)).2
  · rw [List.mem_singleton.1 hx]; exact (rdD_dgt h.r).2
  · rw [List.mem_singleton.1 hx]; exact (rdD_dgt h.s).2
theorem map_back {f : Int → UInt8} {g : UInt8 → Int} : ∀ (l : List Int), (∀ n ∈ l, g (f n) = n) → (l.map f).map g = l
  | [], _ => rfl
  | a :: l, h => by rw [List.map_cons, List.map_cons, h a (by simp), map_back l (fun n hn => h n (by simp [hn]))]
theorem txt_inj {p q : Pt} (hp : OkT p) (hq : OkT q) (h : txt p = txt q) : p = q := by
  have e := spl_txt hp
  rw [h, spl_txt hq] at e
  simp only [List.cons.injEq, and_true] at e
  obtain ⟨e1, e2, e3, e4, e5⟩ := e
  have f1 := congrArg (List.map rdS) e1
  rw [map_back _ (fun n hn => (rdS_sgn (hq.c n hn)).1), map_back _ (fun n hn => (rdS_sgn (hp.c n hn)).1)] at f1
  have f2 := congrArg (List.map rdD) e2
  rw [map_back _ (fun n hn => (rdD_dgt (hq.a n hn)).1), map_back _ (fun n hn => (rdD_dgt (hp.a n hn)).1)] at f2
  have f3 := congrArg (List.map rdD) e3
  rw [map_back _ (fun n hn => (rdD_dgt (hq.b n hn)).1), map_back _ (fun n hn => (rdD_dgt (hp.b n hn)).1)] at f3
  have f4 := congrArg rdD e4
  rw [(rdD_dgt hq.r).1, (rdD_dgt hp.r).1] at f4
  have f5 := congrArg rdD e5
  rw [(rdD_dgt hq.s).1, (rdD_dgt hp.s).1] at f5
  cases p; cases q
  simp_all
theorem txt_len (p : Pt) : (txt p).length = p.c.length + p.a.length + p.b.length + 6 := by
  unfold txt
  simp
  omega
/-- What a valid position of a good game is like. -/
theorem handB_spec : ∀ {ks : List Kd} {l : List Int}, handB ks l = true → ∀ n ∈ l, 0 ≤ n ∧ n ≤ 8
  | [], [], _, n, hn => by simp at hn
  | [], _ :: _, h, _, _ => by simp [handB] at h
  | _ :: _, [], h, _, _ => by simp [handB] at h
  | k :: ks, m :: l, h, n, hn => by
    unfold handB at h
    simp only [Bool.and_eq_true, decide_eq_true_eq] at h
    rcases List.mem_cons.1 hn with rfl | hn
    · omega
    · exact handB_spec h.2 n hn
structure ValidS (g : Gm) (p : Pt) : Prop where
  lc : p.c.length = g.cells
  cc : ∀ n ∈ p.c, 0 ≤ n ∧ n ≤ 2 * g.kinds.length
  ha : handB g.kinds p.a = true
  hb : handB g.kinds p.b = true
  r : 0 ≤ p.r ∧ p.r < 2 ^ g.rights
  s : p.s = 0 ∨ p.s = 1
theorem validP_iff {g : Gm} {p : Pt} : validP g p = true ↔ ValidS g p := by
  unfold validP
  simp only [Bool.and_eq_true, decide_eq_true_eq, List.all_eq_true]
  constructor
  · rintro ⟨h1, h2, h3, h4, h5, h6⟩
    exact ⟨h1, fun n hn => of_decide_eq_true (h2 n hn), h3, h4, h5, h6⟩
  · intro h
    exact ⟨h.lc, fun n hn => decide_eq_true (h.cc n hn), h.ha, h.hb, h.r, h.s⟩
theorem pow_le4 {r : Nat} (h : r ≤ 2) : (2 : Int) ^ r ≤ 4 := by
  match r, h with
  | 0, _ => decide
  | 1, _ => decide
  | 2, _ => decide
theorem ValidS.ok {g : Gm} {p : Pt} (h : ValidS g p) (hk : g.kinds.length ≤ 2) (hr : g.rights ≤ 2) : OkT p where
  c n hn := by have := h.cc n hn; omega
  a n hn := by have := handB_spec h.ha n hn; omega
  b n hn := by have := handB_spec h.hb n hn; omega
  r := by have := h.r; have := pow_le4 hr; omega
  s := by have := h.s; omega
theorem ValidS.lens {g : Gm} {p : Pt} (h : ValidS g p) : p.c.length = g.cells ∧ p.a.length = g.kinds.length ∧ p.b.length = g.kinds.length := ⟨h.lc, handB_len h.ha, handB_len h.hb⟩
def zeroP : Pt := ⟨[], [], [], 0, 0⟩
/-- How a text is read. -/
def ParseR (g : Gm) (s : List UInt8) (q : Pt) (e : Int) : Prop := (e = 0 ∧ ValidS g q ∧ txt q = s) ∨ (e = 3 ∧ q = zeroP ∧ ∀ p, ValidS g p → txt p ≠ s)
theorem ParseR.uniq {g : Gm} {s : List UInt8} {q q' : Pt} {e e' : Int} (hk : g.kinds.length ≤ 2) (hr : g.rights ≤ 2) (h : ParseR g s q e) (h' : ParseR g s q' e') : q = q' ∧ e = e' := by
  rcases h with ⟨rfl, h1, h2⟩ | ⟨rfl, rfl, h2⟩ <;> rcases h' with ⟨rfl, h1', h2'⟩ | ⟨rfl, rfl, h2'⟩
  · exact ⟨txt_inj (h1.ok hk hr) (h1'.ok hk hr) (h2.trans h2'.symm), rfl⟩
  · exact absurd h2 (h2' _ h1)
  · exact absurd h2' (h2 _ h1')
  · exact ⟨rfl, rfl⟩
/-! ### Reading by places -/
def x1 (b : UInt8) : Int := if b.toNat = 46 then 0 else 99
def x2 (b : UInt8) : Int := if 65 ≤ b.toNat ∧ b.toNat ≤ 90 then 1 + 2 * ((b.toNat : Int) - 65) else x1 b
def rdX (b : UInt8) : Int := if 97 ≤ b.toNat ∧ b.toNat ≤ 122 then 2 + 2 * ((b.toNat : Int) - 97) else x2 b
def dX (b : UInt8) : Int := if 48 ≤ b.toNat ∧ b.toNat ≤ 57 then (b.toNat : Int) - 48 else 99
theorem rdX_sgn {n : Int} (h : 0 ≤ n ∧ n ≤ 12) : rdX (sgn n) = n := by
  rcases int12 h with rfl | rfl | rfl | rfl | rfl | rfl | rfl | rfl | rfl | rfl | rfl | rfl | rfl <;> decide
theorem dX_dgt {n : Int} (h : 0 ≤ n ∧ n ≤ 9) : dX (dgt n) = n := by
  rcases int12 ⟨h.1, by omega⟩ with rfl | rfl | rfl | rfl | rfl | rfl | rfl | rfl | rfl | rfl | rfl | rfl | rfl <;> first | decide | omega
theorem dX_bd (b : UInt8) : 0 ≤ dX b ∧ dX b ≤ 99 := by unfold dX; split <;> omega
def ten (l : List UInt8) : Int := l.foldl (fun r b => 10 * r + dX b) 0
theorem ten_snoc (l : List UInt8) (b : UInt8) : ten (l ++ [b]) = 10 * ten l + dX b := by unfold ten; rw [List.foldl_append]; rfl
theorem ten_bd : ∀ (l : List UInt8), l.length ≤ 2 → 0 ≤ ten l ∧ ten l ≤ 1089
  | [], _ => by simp [ten]
  | [a], _ => by have := dX_bd a; simp [ten]; omega
  | [a, b], _ => by have := dX_bd a; have := dX_bd b; simp [ten]; omega
  | _ :: _ :: _ :: _, h => by simp at h
def atP (n k : Nat) (s : List UInt8) : Pt := ⟨(s.take n).map rdX, ((s.drop (n + 1)).take k).map dX, ((s.drop (n + k + 2)).take k).map dX, ten ((s.drop (n + 2 * k + 3)).take (s.length - 2 - (n + 2 * k + 3))), dX (s.getD (s.length - 1) 0)⟩
theorem atP_txt {g : Gm} {p : Pt} (hv : ValidS g p) (hk : g.kinds.length ≤ 2) (hr : g.rights ≤ 2) : atP g.cells g.kinds.length (txt p) = p := by
  have ho := hv.ok hk hr
  obtain ⟨z1, z2, z3⟩ := hv.lens
  have hl := txt_len p
  unfold atP
  rw [← z1, ← z2, hl]
  have d0 : (txt p).take p.c.length = p.c.map sgn := by
    unfold txt
    rw [List.take_append_of_le_length (by simp), List.take_of_length_le (by simp)]
  have d1 : (txt p).drop (p.c.length + 1) = p.a.map dgt ++ 47 :: (p.b.map dgt ++ [47, dgt p.r, 47, dgt p.s]) := by
    unfold txt
    rw [List.drop_append, List.drop_eq_nil_of_le (by simp), List.length_map]
    simp
  have d2 : (txt p).drop (p.c.length + p.a.length + 2) = p.b.map dgt ++ [47, dgt p.r, 47, dgt p.s] := by
    rw [show p.c.length + p.a.length + 2 = (p.c.length + 1) + (p.a.length + 1) by omega, ← List.drop_drop, d1]
    rw [List.drop_append, List.drop_eq_nil_of_le (by simp), List.length_map]
    simp
  have d3 : (txt p).drop (p.c.length + 2 * p.a.length + 3) = [dgt p.r, 47, dgt p.s] := by
    rw [show p.c.length + 2 * p.a.length + 3 = (p.c.length + p.a.length + 2) + (p.a.length + 1) by omega, ← List.drop_drop, d2]
    rw [List.drop_append, List.drop_eq_nil_of_le (by simp; omega), List.length_map]
    rw [show p.a.length + 1 - p.b.length = 1 by omega]
    rfl
  have d4 : (txt p).getD (p.c.length + p.a.length + p.b.length + 6 - 1) 0 = dgt p.s := by
    rw [List.getD_eq_getElem?_getD]
    have : (txt p)[p.c.length + p.a.length + p.b.length + 6 - 1]? = ((txt p).drop (p.c.length + 2 * p.a.length + 3))[2]? := by
      rw [List.getElem?_drop]
      congr 1
      omega
    rw [this, d3]
    rfl
  rw [d0, d1, d2, d3, d4]
  have e1 : p.c.length + p.a.length + p.b.length + 6 - 2 - (p.c.length + 2 * p.a.length + 3) = 1 := by omega
  rw [e1]
  have e2 : (p.a.map dgt ++ 47 :: (p.b.map dgt ++ [47, dgt p.r, 47, dgt p.s])).take p.a.length = p.a.map dgt := by
    rw [List.take_append_of_le_length (by simp), List.take_of_length_le (by simp)]
  have e3 : (p.b.map dgt ++ [47, dgt p.r, 47, dgt p.s]).take p.a.length = p.b.map dgt := by
    rw [List.take_append_of_le_length (by simp; omega), List.take_of_length_le (by simp; omega)]
  rw [e2, e3, map_back _ (fun n hn => rdX_sgn (ho.c n hn)), map_back _ (fun n hn => dX_dgt (ho.a n hn)), map_back _ (fun n hn => dX_dgt (ho.b n hn)), dX_dgt ho.s]
  have e4 : ten ([dgt p.r, 47, dgt p.s].take 1) = p.r := by
    have := dX_dgt ho.r
    simp [ten, this]
  rw [e4]
end Go.Ps
end

