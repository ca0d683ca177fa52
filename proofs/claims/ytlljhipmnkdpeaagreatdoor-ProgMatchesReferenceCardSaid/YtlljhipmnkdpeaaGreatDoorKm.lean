/-
  Lemmas for the proof of the statement of this claim: a part of the road, no statement of its own. Conditions: those that each lemma names.
-/
import Derived.Test.YtlljhipmnkdpeaaGreatDoorKf
import Derived.Lib.ItoaNum
import Derived.Lib.AtoiAll
import Derived.Lib.Split
import Derived.Lib.SplitLaws
import Derived.Lib.Join
import Derived.Lib.IndexBytes
import Derived.Lib.Strings
import Derived.Lib.SlicesCompact
section
/-
  Programs of steps, plainly.
-/
set_option linter.unusedVariables false
set_option maxHeartbeats 1000000
namespace Go.Pr
open Go Go.Sk
abbrev Stp := Int × Int
abbrev encP : Stp → List Value := fun s => [I s.1, I s.2]
instance : Enc encP 2 := ⟨fun _ => rfl, fun a v h => by
  simp only [encP, List.mem_cons, List.not_mem_nil, or_false] at h
  rcases h with rfl | rfl <;> rfl⟩
abbrev Sv (s : Stp) : Value := .agg #[I s.1, I s.2]
def word (op : Int) : List UInt8 :=
  if op = 1 then [103, 111] else if op = 2 then [115, 108, 105, 100, 101] else if op = 3 then [101, 109, 112, 116, 121] else if op = 4 then [101, 110, 101, 109, 121] else
  if op = 5 then [102, 114, 105, 101, 110, 100] else if op = 6 then [116, 97, 107, 101] else if op = 7 then [112, 117, 115, 104] else if op = 8 then [98, 101, 99, 111, 109, 101] else
  if op = 9 then [110, 101, 101, 100] else if op = 10 then [108, 111, 115, 101] else []
def num (op : Int) : Int := if op = 1 ∨ op = 2 ∨ op = 7 then 1 else if op = 8 then 2 else if op = 9 ∨ op = 10 then 3 else 0
def okOp (op : Int) : Bool := decide (1 ≤ op ∧ op ≤ 10)
def lim (d k r n : Int) : Int := if n = 0 then 1 else if n = 1 then d else if n = 2 then k else r
def stepB (s : Stp) (d k r : Int) : Bool := decide (1 ≤ s.1 ∧ s.1 ≤ 10 ∧ 0 ≤ s.2 ∧ s.2 < lim d k r (num s.1))
def isOp (op : Int) (s : Stp) : Bool := decide (s.1 = op)
def cnt (l : List Stp) (op : Int) : Nat := (l.filter (isOp op)).length
def allB (l : List Stp) (d k r : Int) : Bool := l.all fun s => stepB s d k r
def validB (l : List Stp) (d k r : Int) : Bool := decide (0 < l.length ∧ l.length ≤ 8 ∧ allB l d k r = true ∧ cnt l 6 ≤ 2 ∧ cnt l 7 ≤ 1 ∧ cnt l 8 ≤ 1)
def leadB (op : Int) : Bool := decide (op = 1 ∨ op = 2 ∨ op = 7)
theorem num_lead (op : Int) : decide (num op = 1) = leadB op := by
  unfold num leadB
  by_cases h1 : op = 1 ∨ op = 2 ∨ op = 7
  · simp [h1]
  · simp only [if_neg h1]
    split
    · simp [h1]
    · split <;> simp [h1]
theorem op_cases {op : Int} (h : 1 ≤ op ∧ op ≤ 10) : op = 1 ∨ op = 2 ∨ op = 3 ∨ op = 4 ∨ op = 5 ∨ op = 6 ∨ op = 7 ∨ op = 8 ∨ op = 9 ∨ op = 10 := by omega
theorem num_bd (op : Int) : 0 ≤ num op ∧ num op ≤ 3 := by unfold num; split <;> (try split) <;> (try split) <;> omega
theorem word_len (op : Int) : (word op).length ≤ 6 := by unfold word; repeat' split
                                                         all_goals decide
theorem cnt_nil (op : Int) : cnt [] op = 0 := rfl
theorem cnt_snoc (l : List Stp) (s : Stp) (op : Int) : cnt (l ++ [s]) op = cnt l op + if s.1 = op then 1 else 0 := by
  unfold cnt isOp
  rw [List.filter_append, List.length_append]
  congr 1
  by_cases h : s.1 = op <;> simp [h]
theorem cnt_le (l : List Stp) (op : Int) : cnt l op ≤ l.length := List.length_filter_le _ _
end Go.Pr
end

section
/-
  Texts of programs, plainly.
-/
set_option linter.unusedVariables false
set_option maxHeartbeats 1000000
namespace Go.Pr
open Go Go.Sk
def digit (n : Int) : UInt8 := UInt8.ofNat (48 + n.toNat)
def wtext (s : Stp) : List UInt8 := word s.1 ++ (if num s.1 = 0 then [] else [digit s.2])
def printP (l : List Stp) : List UInt8 := if validB l 8 6 4 = true then Lib.join (l.map wtext) [32] else []
def opsL : List Int := [1, 2, 3, 4, 5, 6, 7, 8, 9, 10]
def nsL : List Int := [0, 1, 2, 3, 4, 5, 6, 7]
def pairsL : List Stp := opsL.flatMap fun op => nsL.map fun n => (op, n)
def stepsL : List Stp := pairsL.filter fun s => stepB s 8 6 4
theorem mem_pairs (s : Stp) (h : 1 ≤ s.1 ∧ s.1 ≤ 10 ∧ 0 ≤ s.2 ∧ s.2 ≤ 7) : s ∈ pairsL := by
  refine List.mem_flatMap.2 ⟨s.1, ?_, List.mem_map.2 ⟨s.2, ?_, rfl⟩⟩
  · rcases op_cases ⟨h.1, h.2.1⟩ with h | h | h | h | h | h | h | h | h | h <;> rw [h] <;> decide
  · have : s.2 = 0 ∨ s.2 = 1 ∨ s.2 = 2 ∨ s.2 = 3 ∨ s.2 = 4 ∨ s.2 = 5 ∨ s.2 = 6 ∨ s.2 = 7 := by omega
    rcases this with h | h | h | h | h | h | h | h <;> rw [h] <;> decide
theorem lim_bd (n : Int) : lim 8 6 4 n ≤ 8 := by unfold lim; split <;> (try split) <;> (try split) <;> omega
theorem step_bd {s : Stp} (h : stepB s 8 6 4 = true) : 1 ≤ s.1 ∧ s.1 ≤ 10 ∧ 0 ≤ s.2 ∧ s.2 ≤ 7 := by
  have h1 := of_decide_eq_true h
  have h2 := lim_bd (num s.1)
  omega
theorem mem_steps (s : Stp) : s ∈ stepsL ↔ stepB s 8 6 4 = true := by
  unfold stepsL
  rw [List.mem_filter]
  exact ⟨fun h => h.2, fun h => ⟨mem_pairs s (step_bd h), h⟩⟩
/-- Cut at each blank. -/
def spl : List UInt8 → List (List UInt8)
  | [] => [[]]
  | c :: r => if c = 32 then [] :: spl r else match spl r with
    | [] => [[c]]
    | a :: t => (c :: a) :: t
theorem spl_cons (c : UInt8) (r : List UInt8) : spl (c :: r) = if c = 32 then [] :: spl r else match spl r with
    | [] => [[c]]
    | a :: t => (c :: a) :: t := by conv => lhs; unfold spl
theorem spl_ne : ∀ l, spl l ≠ []
  | [] => by simp [spl]
  | c :: r => by
    unfold spl
    split
    · simp
    · split <;> simp
theorem spl_none : ∀ (a : List UInt8), (∀ c ∈ a, c ≠ 32) → spl a = [a]
  | [], _ => rfl
  | c :: a, h => by
    unfold spl
    rw [if_neg (h c (by simp)), spl_none a (fun c hc => h c (by simp [hc]))]
theorem spl_gap : ∀ (a b : List UInt8), (∀ c ∈ a, c ≠ 32) → spl (a ++ 32 :: b) = a :: spl b
  | [], b, _ => by simp [spl]
  | c :: a, b, h => by
    show spl (c :: (a ++ 32 :: b)) = _
    rw [spl_cons, if_neg (h c (by simp)), spl_gap a b (fun c hc => h c (by simp [hc]))]
theorem first_blank : ∀ (s : List UInt8), (∀ c ∈ s, c ≠ 32) ∨ ∃ a b, s = a ++ 32 :: b ∧ ∀ c ∈ a, c ≠ 32
  | [] => .inl (by simp)
  | c :: r => by
    by_cases h : c = 32
    · exact .inr ⟨[], r, by rw [h]; rfl, by simp⟩
    · rcases first_blank r with h1 | ⟨a, b, h1, h2⟩
      · left
        intro x hx
        rcases List.mem_cons.1 hx with rfl | hx
        · exact h
        · exact h1 x hx
      · right
        refine ⟨c :: a, b, by rw [h1]; rfl, ?_⟩
        intro x hx
        rcases List.mem_cons.1 hx with rfl | hx
        · exact h
        · exact h2 x hx
theorem iB_gap : ∀ (a b : List UInt8), (∀ c ∈ a, c ≠ 32) → Lib.indexByte (a ++ 32 :: b) 32 = a.length
  | [], b, _ => rfl
  | c :: a, b, h => by
    have hc := h c (by simp)
    have ih := iB_gap a b (fun c hc => h c (by simp [hc]))
    show Lib.indexByte (c :: (a ++ 32 :: b)) 32 = _
    simp only [Lib.indexByte, ih]
    rw [if_neg (by simpa using hc), if_neg (by simp)]
    simp
theorem splitK_spl : ∀ (k : Nat) (s : List UInt8), s.count 32 = k → Lib.splitK [32] 0 k s = spl s
  | 0, s, h => by
    rw [spl_none s (fun c hc e => by
      subst e
      have := List.count_pos_iff.2 hc
      omega)]
    rfl
  | k + 1, s, h => by
    rcases first_blank s with h1 | ⟨a, b, rfl, h2⟩
    · have : s.count 32 = 0 := List.count_eq_zero.2 (fun hc => h1 32 hc rfl)
      omega
    · have hi : Lib.index (a ++ 32 :: b) [32] = a.length := by rw [Lib.index_one, iB_gap a b h2]
      have hk : b.count 32 = k := by
        rw [List.count_append, List.count_cons_self] at h
        have : a.count 32 = 0 := List.count_eq_zero.2 (fun hc => h2 32 hc rfl)
        omega
      unfold Lib.splitK
      rw [hi, spl_gap a b h2, if_neg (by simp)]
      have e1 : (a ++ 32 :: b).take (((a.length : Int)).toNat + 0) = a := by simp
      have e2 : (a ++ 32 :: b).drop (((a.length : Int)).toNat + ([32] : List UInt8).length) = b := by simp
      rw [e1, e2, splitK_spl k b hk]
theorem split_spl (s : List UInt8) : Lib.split s [32] = spl s := by
  unfold Lib.split
  rw [Lib.count_one]
  exact splitK_spl _ s rfl
theorem spl_join : ∀ (ws : List (List UInt8)), ws ≠ [] → (∀ w ∈ ws, ∀ c ∈ w, c ≠ 32) → spl (Lib.join ws [32]) = ws
  | [], h, _ => absurd rfl h
  | [x], _, h => by rw [Lib.join_one]; exact spl_none x (h x (by simp))
  | x :: y :: r, _, h => by
    have ih := spl_join (y :: r) (by simp) (fun w hw => h w (by simp [hw]))
    rw [Lib.join_cons] at ih
    rw [Lib.join_cons]
    have : Lib.joinTail [32] (y :: r) = 32 :: (y ++ Lib.joinTail [32] r) := by simp [Lib.joinTail]
    rw [this, spl_gap x _ (h x (by simp)), ih]
/-- How a word is read. -/
def rdOne (w : List UInt8) (op : Int) : Option Stp :=
  if Lib.hasPrefix w (word op) = true then
    if num op = 0 then (if Lib.trimPrefix w (word op) = [] then some (op, 0) else none)
    else match Lib.atoiAll (Lib.trimPrefix w (word op)) with
      | .ok n => some (op, n)
      | _ => none
  else none
def rdL (w : List UInt8) : List Int → Option Stp
  | [] => none
  | op :: r => match rdOne w op with
    | some s => some s
    | none => rdL w r
def rd (w : List UInt8) : Option Stp := rdL w opsL
theorem rd_steps : ∀ s ∈ stepsL, rd (wtext s) = some s := by decide +kernel
theorem wtext_clean : ∀ s ∈ stepsL, ∀ c ∈ wtext s, c ≠ 32 := by decide +kernel
theorem wtext_only : ∀ s ∈ stepsL, stepsL.filter (fun x => decide (wtext x = wtext s)) = [s] := by decide +kernel
theorem wtext_len : ∀ s ∈ stepsL, (wtext s).length ≤ 7 ∧ wtext s ≠ [] := by decide +kernel
theorem valid_parts {l : List Stp} (h : validB l 8 6 4 = true) : 0 < l.length ∧ l.length ≤ 8 ∧ ∀ s ∈ l, s ∈ stepsL := by
  have h1 := of_decide_eq_true h
  refine ⟨h1.1, h1.2.1, fun s hs => (mem_steps s).2 ?_⟩
  have h2 := h1.2.2.1
  unfold allB at h2
  exact List.all_eq_true.1 h2 s hs
theorem spl_print {l : List Stp} (h : validB l 8 6 4 = true) : spl (printP l) = l.map wtext := by
  obtain ⟨h1, h2, h3⟩ := valid_parts h
  unfold printP
  rw [if_pos h]
  refine spl_join _ ?_ ?_
  · intro e
    have : l = [] := by simpa using e
    rw [this] at h1
    simp at h1
  · intro w hw c hc
    obtain ⟨s, hs, rfl⟩ := List.mem_map.1 hw
    exact wtext_clean s (h3 s hs) c hc
theorem map_rd : ∀ (l : List Stp), (∀ s ∈ l, s ∈ stepsL) → (l.map wtext).map rd = l.map some
  | [], _ => rfl
  | s :: l, h => by
    rw [List.map_cons, List.map_cons, List.map_cons, rd_steps s (h s (by simp)), map_rd l (fun x hx => h x (by simp [hx]))]
theorem print_inj {l m : List Stp} (hl : validB l 8 6 4 = true) (hm : validB m 8 6 4 = true) (h : printP l = printP m) : l = m := by
  have a := spl_print hl
  have b := spl_print hm
  rw [h, b] at a
  have c := congrArg (List.map rd) a
  rw [map_rd m (valid_parts hm).2.2, map_rd l (valid_parts hl).2.2] at c
  have inj : ∀ (x y : List Stp), x.map some = y.map some → x = y := by
    intro x
    induction x with
    | nil => intro y h; cases y with
      | nil => rfl
      | cons b y => simp at h
    | cons a x ih => intro y h; cases y with
      | nil => simp at h
      | cons b y =>
        simp only [List.map_cons, List.cons.injEq, Option.some.injEq] at h
        rw [h.1, ih y h.2]
  exact (inj m l c).symm
theorem print_ne {l : List Stp} (h : validB l 8 6 4 = true) : printP l ≠ [] := by
  intro e
  have a := spl_print h
  rw [e] at a
  obtain ⟨h1, h2, h3⟩ := valid_parts h
  cases l with
  | nil => simp at h1
  | cons s r =>
    simp only [spl, List.map_cons, List.cons.injEq] at a
    exact (wtext_len s (h3 s (by simp))).2 a.1.symm
theorem print_len (l : List Stp) : (printP l).length ≤ 80 := by
  unfold printP
  split
  · rename_i h
    obtain ⟨h1, h2, h3⟩ := valid_parts h
    cases l with
    | nil => simp at h1
    | cons s r =>
      rw [List.map_cons, Lib.join_length]
      have hs := (wtext_len s (h3 s (by simp))).1
      have hl : Lib.lens (r.map wtext) ≤ 7 * r.length := by
        have : ∀ (r : List Stp), (∀ s ∈ r, s ∈ stepsL) → Lib.lens (r.map wtext) ≤ 7 * r.length := by
          intro r
          induction r with
          | nil => intro _; decide
          | cons a r ih =>
            intro h
            have h4 := (wtext_len a (h a (by simp))).1
            have h5 := ih (fun x hx => h x (by simp [hx]))
            simp only [Lib.lens, List.map_cons, List.sum_cons, List.length_cons] at *
            omega
        exact this r (fun x hx => h3 x (by simp [hx]))
      have h6 : Lib.lens (wtext s :: r.map wtext) = (wtext s).length + Lib.lens (r.map wtext) := by simp [Lib.lens]
      rw [h6]
      simp only [List.length_map, List.length_cons] at *
      simp
      omega
  · simp
end Go.Pr
end

section
/-
  The directions of a program, plainly: a list that rises, and its members.
-/
set_option linter.unusedVariables false
set_option maxHeartbeats 1000000
namespace Go.Pr
open Go Go.Sk
def leadsN (l : List Stp) : List Int := (l.filter fun s => leadB s.1).map (·.2)
def sortI (l : List Int) : List Int := l.mergeSort fun x y => decide (x ≤ y)
def dirs (l : List Stp) : List Int := Lib.compact (sortI (leadsN l))
def Rises (l : List Int) : Prop := l.Pairwise (· < ·)
theorem rises_ext : ∀ (a b : List Int), Rises a → Rises b → (∀ x, x ∈ a ↔ x ∈ b) → a = b
  | [], [], _, _, _ => rfl
  | [], y :: b, _, _, h => absurd ((h y).2 (by simp)) (by simp)
  | x :: a, [], _, _, h => absurd ((h x).1 (by simp)) (by simp)
  | x :: a, y :: b, ha, hb, h => by
    unfold Rises at *
    rw [List.pairwise_cons] at ha hb
    have hx := (h x).1 (by simp)
    have hy := (h y).2 (by simp)
    have hxy : x = y := by
      rcases List.mem_cons.1 hx with h1 | h1
      · exact h1
      · rcases List.mem_cons.1 hy with h2 | h2
        · exact h2.symm
        · have := ha.1 y h2
          have := hb.1 x h1
          omega
    subst hxy
    congr 1
    refine rises_ext a b ha.2 hb.2 (fun z => ⟨fun hz => ?_, fun hz => ?_⟩)
    · rcases List.mem_cons.1 ((h z).1 (by simp [hz])) with h1 | h1
      · have := ha.1 z hz
        omega
      · exact h1
    · rcases List.mem_cons.1 ((h z).2 (by simp [hz])) with h1 | h1
      · have := hb.1 z hz
        omega
      · exact h1
theorem compact_up (d : Array Int) (hs : ∀ i j, i < j → j < d.size → d[i]! ≤ d[j]!) : ∀ m, m ≤ d.size → Rises (Lib.compactUpTo d m) ∧ ∀ x, x ∈ Lib.compactUpTo d m ↔ ∃ j, j < m ∧ d[j]! = x
  | 0, _ => ⟨by unfold Rises Lib.compactUpTo; simp, fun x => by unfold Lib.compactUpTo; simp⟩
  | m + 1, hm => by
    obtain ⟨h1, h2⟩ := compact_up d hs m (by omega)
    rw [Lib.compactUpTo_succ]
    by_cases hk : 0 < m ∧ d[m]! = d[m - 1]!
    · rw [Lib.keeps_neg hk.1 hk.2]
      simp only [Bool.false_eq_true, if_false, List.append_nil]
      refine ⟨h1, fun x => ?_⟩
      rw [h2]
      constructor
      · rintro ⟨j, h3, h4⟩
        exact ⟨j, by omega, h4⟩
      · rintro ⟨j, h3, h4⟩
        by_cases hj : j = m
        · subst hj
          exact ⟨j - 1, by omega, by rw [← hk.2]; exact h4⟩
        · exact ⟨j, by omega, h4⟩
    · have hkeep : Lib.keeps d m = true := by
        by_cases h0 : m = 0
        · subst h0
          exact Lib.keeps_lt_one d 0 (by decide)
        · exact Lib.keeps_pos (fun e => hk ⟨by omega, e⟩)
      rw [hkeep, if_pos rfl]
      have hlt : ∀ x ∈ Lib.compactUpTo d m, x < d[m]! := by
        intro x hx
        obtain ⟨j, h3, rfl⟩ := (h2 x).1 hx
        have h4 := hs j m h3 (by omega)
        have h5 : d[m]! ≠ d[m - 1]! := fun e => hk ⟨by omega, e⟩
        by_cases hj : j = m - 1
        · subst hj; omega
        · have h6 := hs j (m - 1) (by omega) (by omega)
          have h7 := hs (m - 1) m (by omega) (by omega)
          omega
      refine ⟨?_, fun x => ?_⟩
      · unfold Rises at *
        rw [List.pairwise_append]
        exact ⟨h1, by simp, fun a ha b hb => by
          simp only [List.mem_singleton] at hb
          subst hb
          exact hlt a ha⟩
      · rw [List.mem_append, h2, List.mem_singleton]
        constructor
        · rintro (⟨j, h3, h4⟩ | rfl)
          · exact ⟨j, by omega, h4⟩
          · exact ⟨m, by omega, rfl⟩
        · rintro ⟨j, h3, h4⟩
          by_cases hj : j = m
          · subst hj; exact .inr h4.symm
          · exact .inl ⟨j, by omega, h4⟩
theorem sortI_sorted (l : List Int) : (sortI l).Pairwise (· ≤ ·) := by
  have := List.pairwise_mergeSort (le := fun x y : Int => decide (x ≤ y)) (by intro a b c h1 h2; simp only [decide_eq_true_eq] at *; omega) (by intro a b; simp only [Bool.or_eq_true, decide_eq_true_eq]; omega) l
  exact this.imp (fun h => by simpa using h)
theorem dirs_rises (l : List Stp) : Rises (dirs l) ∧ ∀ x, x ∈ dirs l ↔ x ∈ leadsN l := by
  have hs := sortI_sorted (leadsN l)
  have hmem : ∀ x, x ∈ sortI (leadsN l) ↔ x ∈ leadsN l := fun x => List.mem_mergeSort
  unfold dirs Lib.compact
  generalize sortI (leadsN l) = z at *
  have hget : ∀ i, i < z.length → (z.toArray)[i]! = z[i]! := fun i hi => by simp [hi]
  obtain ⟨h1, h2⟩ := compact_up z.toArray (fun i j hij hj => by
    have hj : j < z.length := by simpa using hj
    rw [hget i (by omega), hget j hj, getElem!_pos z i (by omega), getElem!_pos z j hj]
    exact List.pairwise_iff_getElem.1 hs i j (by omega) hj hij) z.length (by simp)
  refine ⟨h1, fun x => ?_⟩
  rw [h2, ← hmem]
  constructor
  · rintro ⟨j, h3, h4⟩
    rw [hget j h3, getElem!_pos z j h3] at h4
    rw [← h4]
    exact List.getElem_mem h3
  · intro hx
    obtain ⟨j, h3, h4⟩ := List.getElem_of_mem hx
    exact ⟨j, h3, by rw [hget j h3, getElem!_pos z j h3]; exact h4⟩
/-- The reference's way: put in its place, once. -/
def insF (n : Int) : List Int → List Int
  | [] => [n]
  | a :: r => if n < a then n :: a :: r else if n = a then a :: r else a :: insF n r
theorem insF_mem (n : Int) : ∀ l x, x ∈ insF n l ↔ x = n ∨ x ∈ l
  | [], x => by simp [insF]
  | a :: r, x => by
    unfold insF
    split
    · simp
    · split
      · rename_i h; subst h
        simp
      · simp only [List.mem_cons, insF_mem n r x]
        constructor
        · rintro (h | h | h)
          · exact .inr (.inl h)
          · exact .inl h
          · exact .inr (.inr h)
        · rintro (h | h | h)
          · exact .inr (.inl h)
          · exact .inl h
          · exact .inr (.inr h)
theorem insF_rises (n : Int) : ∀ l, Rises l → Rises (insF n l)
  | [], _ => by unfold Rises insF; simp
  | a :: r, h => by
    unfold Rises at *
    rw [List.pairwise_cons] at h
    unfold insF
    split
    · rename_i hlt
      rw [List.pairwise_cons]
      refine ⟨fun x hx => ?_, List.pairwise_cons.2 h⟩
      rcases List.mem_cons.1 hx with rfl | hx
      · exact hlt
      · have := h.1 x hx
        omega
    · split
      · exact List.pairwise_cons.2 h
      · rw [List.pairwise_cons]
        refine ⟨fun x hx => ?_, insF_rises n r h.2⟩
        rcases (insF_mem n r x).1 hx with rfl | hx
        · omega
        · exact h.1 x hx
theorem insF_len (n : Int) : ∀ l, (insF n l).length ≤ l.length + 1
  | [] => by simp [insF]
  | a :: r => by
    have := insF_len n r
    unfold insF
    split
    · simp
    · split <;> simp <;> omega
def rdirs (l : List Stp) : List Int := (leadsN l).foldl (fun o n => insF n o) []
theorem fold_facts : ∀ (ns o : List Int), Rises o → Rises (ns.foldl (fun o n => insF n o) o) ∧ (∀ x, x ∈ ns.foldl (fun o n => insF n o) o ↔ x ∈ ns ∨ x ∈ o) ∧ (ns.foldl (fun o n => insF n o) o).length ≤ ns.length + o.length
  | [], o, h => ⟨h, by simp, by simp⟩
  | n :: ns, o, h => by
    obtain ⟨h1, h2, h3⟩ := fold_facts ns (insF n o) (insF_rises n o h)
    refine ⟨h1, fun x => ?_, ?_⟩
    · rw [List.foldl_cons, h2, insF_mem]
      simp only [List.mem_cons]
      constructor
      · rintro (h | h | h)
        · exact .inl (.inr h)
        · exact .inl (.inl h)
        · exact .inr h
      · rintro ((h | h) | h)
        · exact .inr (.inl h)
        · exact .inl h
        · exact .inr (.inr h)
    · have := insF_len n o
      rw [List.foldl_cons]
      simp
      omega
theorem rdirs_eq (l : List Stp) : rdirs l = dirs l := by
  obtain ⟨h1, h2, _⟩ := fold_facts (leadsN l) [] List.Pairwise.nil
  obtain ⟨h3, h4⟩ := dirs_rises l
  exact rises_ext _ _ h1 h3 (fun x => by
    have := h2 x
    rw [h4]
    unfold rdirs
    rw [this]
    simp)
theorem leadsN_len (l : List Stp) : (leadsN l).length ≤ l.length := by
  unfold leadsN
  rw [List.length_map]
  exact List.length_filter_le _ _
theorem leadsN_snoc (l : List Stp) (s : Stp) : leadsN (l ++ [s]) = leadsN l ++ if leadB s.1 = true then [s.2] else [] := by
  unfold leadsN
  rw [List.filter_append, List.map_append]
  congr 1
  rw [List.filter_cons]
  split <;> simp
end Go.Pr
end

