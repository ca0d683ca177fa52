/-
  The walk: maps, owned and frozen, as lists of keys and values; ranging over a map.
-/
import Derived.Test.YtnepdmnkhjpnhaaKg
import Derived.Maps.RangeRun
set_option linter.unusedVariables false
set_option linter.unusedSectionVars false
set_option linter.unusedSimpArgs false
namespace Go.Sk
open Go Go.RowKit
open Go.ChangeMaps (setBlock)
variable {M : Mode}

section Pure
variable {κ β : Type} [DecidableEq κ]
def mget : List (κ × β) → κ → Option β
  | [], _ => none
  | (k', v) :: r, k => if k = k' then some v else mget r k
def mset : List (κ × β) → κ → β → List (κ × β)
  | [], k, v => [(k, v)]
  | (k', v') :: r, k, v => if k = k' then (k, v) :: r else (k', v') :: mset r k v
def mix : List (κ × β) → κ → Option Nat
  | [], _ => none
  | (k', _) :: r, k => if k = k' then some 0 else (mix r k).map (· + 1)
theorem mget_mset (k : κ) (v : β) (k' : κ) : ∀ l : List (κ × β), mget (mset l k v) k' = if k' = k then some v else mget l k'
  | [] => by simp [mset, mget]
  | (k2, v2) :: r => by
    have ih := mget_mset k v k' r
    unfold mset
    by_cases h : k = k2
    · subst h
      simp only [if_pos, mget]
      split <;> simp_all
    · rw [if_neg h]
      simp only [mget, ih]
      by_cases h2 : k' = k2
      · subst h2; simp [Ne.symm h]
      · simp [h2]
theorem mix_none {k : κ} : ∀ {l : List (κ × β)}, mix l k = none ↔ mget l k = none
  | [] => by simp [mix, mget]
  | (k2, v2) :: r => by
    simp only [mix, mget]
    split
    · simp
    · simp [mix_none (l := r)]
theorem mix_some {k : κ} : ∀ {l : List (κ × β)} {i : Nat}, mix l k = some i → ∃ v, l[i]? = some (k, v) ∧ mget l k = some v ∧ i < l.length ∧ ∀ u, mset l k u = l.set i (k, u)
  | [], i, h => by simp [mix] at h
  | (k2, v2) :: r, i, h => by
    simp only [mix] at h
    split at h
    · rename_i e
      subst e
      cases h
      exact ⟨v2, by simp [mget, mset]⟩
    · rename_i hne
      cases hm : mix r k with
      | none => rw [hm] at h; cases h
      | some n =>
        rw [hm] at h
        cases h
        obtain ⟨v, h1, h2, h3, h4⟩ := mix_some hm
        exact ⟨v, by simpa using h1, by simp [mget, hne, h2], by simp; omega, fun u => by simp [mset, hne, h4]⟩
theorem mset_none {k : κ} : ∀ {l : List (κ × β)} (v : β), mget l k = none → mset l k v = l ++ [(k, v)]
  | [], v, h => rfl
  | (k2, v2) :: r, v, h => by
    simp only [mget] at h
    split at h
    · cases h
    · rename_i hne
      simp [mset, hne, mset_none v h]
theorem mix_mset {k : κ} (v : β) (k' : κ) : ∀ {l : List (κ × β)} {i : Nat}, mix l k' = some i → mix (mset l k v) k' = some i
  | [], i, h => by simp [mix] at h
  | (k2, v2) :: r, i, h => by
    simp only [mix] at h
    unfold mset
    split
    · rename_i e
      subst e
      simp only [mix]
      exact h
    · simp only [mix]
      split at h
      · rename_i e; rw [if_pos e]; exact h
      · rename_i e
        rw [if_neg e]
        cases hm : mix r k' with
        | none => rw [hm] at h; cases h
        | some n => rw [mix_mset v k' hm]; rw [hm] at h; exact h
theorem mix_isSome {k : κ} {l : List (κ × β)} : ∃ i, ∀ v, mix (mset l k v) k = some i := by
  cases h : mix l k with
  | none =>
    refine ⟨l.length, fun v => ?_⟩
    rw [mset_none v (mix_none.1 h)]
    induction l with
    | nil => simp [mix]
    | cons p r ih =>
      obtain ⟨k2, v2⟩ := p
      simp only [mix] at h
      split at h
      · cases h
      · rename_i hne
        have : mix r k = none := by cases hm : mix r k with | none => rfl | some n => rw [hm] at h; cases h
        simp [mix, hne, ih this]
  | some i => exact ⟨i, fun v => mix_mset v k h⟩

def mEs (ek : κ → Value) (ev : β → Value) : Nat → List (κ × β) → List MapEntry
  | _, [] => []
  | j, (k, v) :: r => ⟨ek k, ev v, j⟩ :: mEs ek ev (j + 1) r
def mO (ek : κ → Value) (ev : β → Value) (l : List (κ × β)) : Obj := .map (mEs ek ev 0 l).toArray l.length
variable {ek : κ → Value} {ev : β → Value}
theorem mEs_len : ∀ (l : List (κ × β)) (j : Nat), (mEs ek ev j l).length = l.length
  | [], _ => rfl
  | _ :: r, j => by simp [mEs, mEs_len r (j + 1)]
theorem mEs_get : ∀ (l : List (κ × β)) (j n : Nat), (mEs ek ev j l)[n]? = l[n]?.map fun p => ⟨ek p.1, ev p.2, j + n⟩
  | [], j, n => by simp [mEs]
  | (k, v) :: r, j, 0 => by simp [mEs]
  | (k, v) :: r, j, n + 1 => by simp [mEs, mEs_get r (j + 1) n, Nat.add_assoc, Nat.add_comm 1 n]
theorem mEs_append : ∀ (l : List (κ × β)) (j : Nat) (k : κ) (v : β), mEs ek ev j (l ++ [(k, v)]) = mEs ek ev j l ++ [⟨ek k, ev v, j + l.length⟩]
  | [], j, k, v => by simp [mEs]
  | (k2, v2) :: r, j, k, v => by simp [mEs, mEs_append r (j + 1), Nat.add_assoc, Nat.add_comm 1]
theorem mEs_set (l : List (κ × β)) {i : Nat} (k : κ) (v : β) (hi : i < l.length) (f : MapEntry → MapEntry) (hf : ∀ p, l[i]? = some p → f ⟨ek p.1, ev p.2, i⟩ = ⟨ek k, ev v, i⟩) : (mEs ek ev 0 l).toArray.modify i f = (mEs ek ev 0 (l.set i (k, v))).toArray := by
  apply Array.ext_getElem?
  intro n
  rw [Array.getElem?_modify]
  simp only [List.getElem?_toArray, mEs_get, Nat.zero_add, List.getElem?_set]
  by_cases e : i = n
  · subst e
    simp only [if_true, List.getElem?_eq_getElem hi, Option.map_some, hi]
    rw [hf _ (List.getElem?_eq_getElem hi)]
  · simp only [if_neg e]
end Pure

class KeyT (P : Program) (t : TypeId) {κ : Type} [DecidableEq κ] (ek : κ → Value) : Prop where
  check : ∀ (b : Bool) (k : κ) (w : World), (Instr.checkKey b 10000 t (ek k)).run P w = .ok () w
  under : ∃ d, P.underlying t = some d ∧ ((∀ k k' : κ, Instr.sameNow d (ek k) (ek k') = none) ∧ (∀ (k k' : κ) (w : World), (Op.equal t (ek k) (ek k')).run P w = .ok (decide (k = k')) w) ∨ (∀ k k' : κ, Instr.sameNow d (ek k) (ek k') = some (decide (k = k'))))
  same : ∀ k : κ, Instr.sameBits 10000 (ek k) (ek k) = true
def mapB (P : Program) (t k e : TypeId) : Bool := match P.underlying t with
  | some (.map k' e') => k' == k && e' == e
  | _ => false
class TMap (P : Program) (t : TypeId) (k e : outParam TypeId) : Prop where
  ok : mapB P t k e = true
theorem TMap.spec {P : Program} {t k e : TypeId} (h : TMap P t k e) : P.underlying t = some (.map k e) := by
  have h := h.ok
  unfold mapB at h
  split at h
  · rename_i k' e' hu
    simp only [Bool.and_eq_true, beq_iff_eq] at h
    rw [hu, h.1, h.2]
  · cases h
class TZv (P : Program) (t : TypeId) (z : outParam Value) : Prop where
  ok : (P.info? t).bind (·.zero) = some z
theorem TZv.run {P : Program} {t : TypeId} {z : Value} (h : TZv P t z) (w : World) : (zeroValue t).run P w = .ok z w := by
  have h := h.ok
  cases hi : P.info? t with
  | none => rw [hi] at h; simp at h
  | some i => rw [hi] at h; exact run_zeroValue hi h w

section
variable {κ β : Type} [DecidableEq κ] {ek : κ → Value} {ev : β → Value} {P : Program} {t tk te : TypeId} {w : World} {l : List (κ × β)} {r : Nat} {k : κ} {v : β} {z : Value}
theorem run_findKey [hk : KeyT P tk ek] (k : κ) (l : List (κ × β)) (w : World) : (Instr.findKey tk (ek k) (mEs ek ev 0 l)).run P w = .ok ((mix l k).bind fun i => (l[i]?).map fun p => (i, ev p.2)) w := by
  obtain ⟨d, hd, hc⟩ := hk.under
  have shift : ∀ (l : List (κ × β)) (j : Nat) (k2 : κ) (v2 : β), ((mix l k).map (· + 1)).bind (fun i => (((k2, v2) :: l)[i]?).map fun p => (j + i, ev p.2)) = (mix l k).bind fun i => (l[i]?).map fun p => (j + 1 + i, ev p.2) := fun l j k2 v2 => by
    cases mix l k with
    | none => rfl
    | some n => simp [Nat.add_assoc, Nat.add_comm 1]
  have now : ∀ (l : List (κ × β)) (j : Nat), (∀ k k' : κ, Instr.sameNow d (ek k) (ek k') = some (decide (k = k'))) → Instr.findNow d (ek k) (mEs ek ev j l) j = some ((mix l k).bind fun i => (l[i]?).map fun p => (j + i, ev p.2)) := by
    intro l
    induction l with
    | nil => intro j _; rfl
    | cons p l ih =>
      obtain ⟨k2, v2⟩ := p
      intro j hs
      by_cases h : k = k2
      · subst h; simp [mEs, Instr.findNow, hs, mix]
      · simp only [mEs, Instr.findNow, hs, mix, h, decide_false, if_false]
        rw [ih (j + 1) hs, shift]
  have ask : ∀ (l : List (κ × β)) (j : Nat), (∀ (k k' : κ) (w : World), (Op.equal tk (ek k) (ek k')).run P w = .ok (decide (k = k')) w) → (Instr.findAsking tk (ek k) (mEs ek ev j l) j).run P w = .ok ((mix l k).bind fun i => (l[i]?).map fun p => (j + i, ev p.2)) w := by
    intro l
    induction l with
    | nil => intro j _; rfl
    | cons p l ih =>
      obtain ⟨k2, v2⟩ := p
      intro j hs
      simp only [mEs, Instr.findAsking, Sem.run_bind, hs, Result.andThen_ok]
      by_cases h : k = k2
      · subst h; simp [mix, pure, Sem.run]
      · simp only [h, decide_false, Bool.false_eq_true, if_false, mix]
        rw [ih (j + 1) hs, shift]
  unfold Instr.findKey
  rw [Sem.run_bind, runU hd, Result.andThen_ok]
  rcases hc with ⟨hn, hq⟩ | hs
  · cases l with
    | nil => rfl
    | cons p l =>
      obtain ⟨k2, v2⟩ := p
      have hf : Instr.findNow d (ek k) (mEs ek ev 0 ((k2, v2) :: l)) 0 = none := by simp [mEs, Instr.findNow, hn]
      rw [hf]
      simpa using ask ((k2, v2) :: l) 0 hq
  · rw [now l 0 hs]
    simp [pure, Sem.run]
theorem find_none (h : mget l k = none) : ((mix l k).bind fun i => (l[i]?).map fun p => (i, ev p.2)) = none := by rw [mix_none.2 h]; rfl
theorem find_some (h : mget l k = some v) : ∃ i, mix l k = some i ∧ i < l.length ∧ l[i]? = some (k, v) ∧ (∀ u, mset l k u = l.set i (k, u)) ∧ ((mix l k).bind fun i => (l[i]?).map fun p => (i, ev p.2)) = some (i, ev v) := by
  cases hm : mix l k with
  | none => rw [mix_none.1 hm] at h; cases h
  | some i =>
    obtain ⟨v', h1, h2, h3, h4⟩ := mix_some hm
    rw [h2] at h
    cases h
    exact ⟨i, rfl, h3, h1, h4, by simp [h1]⟩
theorem V_run2 {s : Sem Value} {w w' : World} {v : Value} (h : s.run P w = .ok v w') : (V s).run P w = .ok (.value v) w' := by
  unfold V; rw [Sem.run_bind, h]; rfl
theorem run_getMap {es : Array MapEntry} {c : Nat} (h : w.heap[r]? = some (.map es c)) : (getObj r).run P w = .ok (.map es c) w := by
  simp [getObj, Sem.run, h]
theorem run_setMap {o o' : Obj} (h : w.heap[r]? = some o) (hc : ∀ a b c, o ≠ .cells a b c) : (setObj r o').run P w = .ok () (setBlock w r o') := by
  simp only [setObj, Sem.run, h, setBlock]
theorem run_lookup [ht : TMap P t tk te] [hk : KeyT P tk ek] [hz : TZv P te z] (h : w.heap[r]? = some (mO ek ev l)) (k : κ) (ok : Bool) :
    (V (Instr.lookup t (.map (some r)) (ek k) ok)).run P w = .ok (.value (if ok then .tuple #[((mget l k).map ev).getD z, .bool (mget l k).isSome] else ((mget l k).map ev).getD z)) w := by
  apply V_run
  unfold Instr.lookup
  unfold mO at h
  simp only [Sem.run_bind, runU ht.spec, Result.andThen_ok, run_getMap h, hk.check, run_findKey]
  show Result.andThen (Result.andThen (.ok (mEs ek ev 0 l).toArray w) _) _ = _
  simp only [Result.andThen_ok, Sem.run_bind, hk.check, run_findKey]
  cases hm : mget l k with
  | none =>
    rw [find_none hm]
    simp only [Sem.run_bind, hz.run, Result.andThen_ok]
    cases ok <;> rfl
  | some v =>
    obtain ⟨i, _, _, _, _, h5⟩ := find_some (ev := ev) hm
    rw [h5]
    cases ok <;> rfl
theorem run_stays (k : κ) [hk : KeyT P tk ek] : (Instr.keyThatStays (ek k) (ek k)).run P w = .ok (ek k) w := by
  unfold Instr.keyThatStays
  rw [hk.same]
  rfl
theorem run_mapUpdate [ht : TMap P t tk te] [hk : KeyT P tk ek] (h : w.heap[r]? = some (mO ek ev l)) (k : κ) (v : β) :
    (U (Instr.mapUpdate t (.map (some r)) (ek k) (ev v))).run P w = .ok .skip (setBlock w r (mO ek ev (mset l k v))) := by
  have hh := h
  unfold mO at h
  have key : (Instr.mapUpdate t (.map (some r)) (ek k) (ev v)).run P w = .ok () (setBlock w r (mO ek ev (mset l k v))) := by
    unfold Instr.mapUpdate
    simp only [Sem.run_bind, runU ht.spec, Result.andThen_ok, run_getMap h, hk.check, run_findKey]
    cases hm : mget l k with
    | none =>
      rw [find_none hm]
      simp only
      rw [run_setMap h (by intro _ _ _ e; cases e), mset_none v hm]
      unfold mO
      rw [mEs_append]
      simp
    | some v' =>
      obtain ⟨i, h1, h2, h3, h4, h5⟩ := find_some (ev := ev) hm
      rw [h5]
      simp only [Sem.run_bind]
      have hkey : (Option.map (fun x => x.key) (mEs ek ev 0 l).toArray[i]?).getD (ek k) = ek k := by
        rw [List.getElem?_toArray, mEs_get, h3]; rfl
      rw [hkey, run_stays k (tk := tk), Result.andThen_ok, run_setMap h (by intro _ _ _ e; cases e), h4 v]
      unfold mO
      rw [mEs_set l k v h2 _ (fun p hp => rfl)]
      simp
  unfold U
  rw [Sem.run_bind, key]
  rfl
theorem run_mapEntry [ht : TMap P t tk te] [hk : KeyT P tk ek] [hz : TZv P te z] {z0 : β} (hz0 : ev z0 = z) (h : w.heap[r]? = some (mO ek ev l)) (k : κ) :
    ∃ i, mix (mset l k ((mget l k).getD z0)) k = some i ∧ (V (Instr.mapEntry t (.map (some r)) (ek k))).run P w = .ok (.value (.tuple #[ev ((mget l k).getD z0), I i])) (setBlock w r (mO ek ev (mset l k ((mget l k).getD z0)))) := by
  have hh := h
  unfold mO at h
  cases hm : mget l k with
  | none =>
    refine ⟨l.length, ?_, ?_⟩
    · obtain ⟨i, hi⟩ := mix_isSome (k := k) (l := l)
      have h1 := hi ((none : Option β).getD z0)
      rw [mset_none _ hm] at h1 ⊢
      rw [h1]
      obtain ⟨v, g1, g2, g3, g4⟩ := mix_some h1
      have : i = l.length := by
        rcases Nat.lt_or_ge i l.length with hlt | hge
        · have h2 := mix_mset (k := k) ((none : Option β).getD z0) k (l := l) (i := i)
          rw [mix_none.2 hm] at h2
          rw [List.getElem?_append_left hlt] at g1
          exfalso
          have : mget l k ≠ none := by
            clear g2 g3 g4 h1 h2 hi h hh
            induction l generalizing i with
            | nil => simp at hlt
            | cons p l ih =>
              obtain ⟨k2, v2⟩ := p
              simp only [mget]
              cases i with
              | zero => simp at g1; simp [g1.1]
              | succ i =>
                by_cases e : k = k2
                · simp [e]
                · rw [if_neg e]
                  simp only [mget, e, if_false] at hm
                  exact ih hm i (by simpa using g1) (by simpa using hlt)
          exact this hm
        · simp at g3; omega
      rw [this]
    · apply V_run2
      unfold Instr.mapEntry
      simp only [Sem.run_bind, runU ht.spec, Result.andThen_ok, run_getMap h, hk.check, run_findKey]
      rw [find_none hm]
      simp only [Sem.run_bind, hz.run, Result.andThen_ok]
      rw [run_setMap h (by intro _ _ _ e; cases e), mset_none _ hm, ← hz0]
      unfold mO
      rw [mEs_append]
      simp
      rfl
  | some v' =>
    obtain ⟨i, h1, h2, h3, h4, h5⟩ := find_some (ev := ev) hm
    refine ⟨i, mix_mset _ _ h1, ?_⟩
    apply V_run2
    unfold Instr.mapEntry
    simp only [Sem.run_bind, runU ht.spec, Result.andThen_ok, run_getMap h, hk.check, run_findKey]
    rw [h5]
    simp only [Sem.run_bind]
    have hkey : (Option.map (fun x => x.key) (mEs ek ev 0 l).toArray[i]?).getD (ek k) = ek k := by
      rw [List.getElem?_toArray, mEs_get, h3]; rfl
    rw [hkey, run_stays k (tk := tk), Result.andThen_ok, run_setMap h (by intro _ _ _ e; cases e), Result.andThen_ok, h4]
    unfold mO
    rw [mEs_set l k ((some v').getD z0) h2 _ (fun p hp => by rw [h3] at hp; cases hp; rfl)]
    simp only [List.length_set]
    rw [List.getElem?_toArray, mEs_get, h3]
    simp only [Option.map_some, Option.getD_some, Nat.zero_add]
    rfl
theorem run_entryStore {i : Nat} (h : w.heap[r]? = some (mO ek ev l)) (hi : mix l k = some i) (v : β) :
    (U (Instr.entryStore t (.map (some r)) (I i) (ev v))).run P w = .ok .skip (setBlock w r (mO ek ev (mset l k v))) := by
  unfold mO at h
  obtain ⟨v', h1, h2, h3, h4⟩ := mix_some hi
  have hf : (mEs ek ev 0 l).toArray.findIdx? (fun e => (e.born : Int) == (i : Int)) = some i := by
    rw [List.findIdx?_toArray, List.findIdx?_eq_some_iff_getElem]
    refine ⟨by rw [mEs_len]; exact h3, ?_, fun j hj => ?_⟩
    · have := mEs_get (ek := ek) (ev := ev) l 0 i
      rw [h1, List.getElem?_eq_getElem (by rw [mEs_len]; exact h3)] at this
      simp at this
      rw [this]
      simp
    · have := mEs_get (ek := ek) (ev := ev) l 0 j
      rw [List.getElem?_eq_getElem (by rw [mEs_len]; omega), List.getElem?_eq_getElem (show j < l.length by omega)] at this
      simp at this
      rw [this]
      simp; omega
  have key : (Instr.entryStore t (.map (some r)) (I i) (ev v)).run P w = .ok () (setBlock w r (mO ek ev (mset l k v))) := by
    unfold Instr.entryStore
    simp only [Sem.run_bind, run_getMap h, Result.andThen_ok]
    have ha : (asInt (I i)).run P w = .ok (i : Int) w := rfl
    simp only [ha, Result.andThen_ok, hf]
    rw [run_setMap h (by intro _ _ _ e; cases e), h4 v]
    unfold mO
    rw [mEs_set l k v h3 _ (fun p hp => by rw [h1] at hp; cases hp; rfl)]
    simp
  unfold U
  rw [Sem.run_bind, key]
  rfl
end

/-! ### The walk -/
class Ob (L : List Itm) (r : Nat) (o : outParam Obj) : Prop where
  mem : Itm.ob r o ∈ L
instance (priority := 2000) Ob.here {r : Nat} {o : Obj} {L : List Itm} : Ob (.ob r o :: L) r o := ⟨by simp⟩
instance Ob.there {x : Itm} {r : Nat} {o : Obj} {L : List Itm} [h : Ob L r o] : Ob (x :: L) r o := ⟨by simp [h.mem]⟩
class TakeOb (L : List Itm) (r : Nat) (o : outParam Obj) (R : outParam (List Itm)) : Prop where
  perm : L.Perm (.ob r o :: R)
instance (priority := 2000) TakeOb.here {r : Nat} {o : Obj} {L : List Itm} : TakeOb (.ob r o :: L) r o L := ⟨.refl _⟩
instance TakeOb.there {x : Itm} {r : Nat} {o : Obj} {L R : List Itm} [h : TakeOb L r o R] : TakeOb (x :: L) r o (x :: R) := ⟨(h.perm.cons x).trans (.swap _ x R)⟩
def ObC (r : Nat) (o : Obj) : WP := fun w => w.heap[r]? = some o
theorem setBlock_heap_ne {w : World} {r k : Nat} {o : Obj} (h : k ≠ r) : (setBlock w r o).heap[k]? = w.heap[k]? := by
  unfold setBlock
  simp [Array.getElem?_setIfInBounds, Ne.symm h]
theorem setBlock_heap_eq {w : World} {r : Nat} {o o' : Obj} (h : w.heap[r]? = some o') : (setBlock w r o).heap[r]? = some o := by
  unfold setBlock
  simp only [Array.getElem?_setIfInBounds, if_true]
  rw [if_pos]
  rcases Nat.lt_or_ge r w.heap.size with hl | hl
  · exact hl
  · rw [Array.getElem?_eq_none hl] at h; cases h

section
variable {κ β : Type} [DecidableEq κ] {ek : κ → Value} {ev : β → Value} {P : Program} {t tk te : TypeId} {l : List (κ × β)} {r : Nat} {k : κ} {v : β} {z : Value} {w0 : World} {h0 h : Hp} {L R : List Itm} {K : Value → WP} {KQ : WP → Value → WP}
theorem St.obj {w : World} (s : St w0 h0 h L w) {o : Obj} (hi : Itm.ob r o ∈ L) : w.heap[r]? = some o := (s.items _ hi).1
theorem St.frz {w : World} (s : St w0 h0 h L w) {o : Obj} (hi : h r = some o) : w.heap[r]? = some o := s.frozen _ _ hi
theorem St.setOb {w : World} {o o' : Obj} (s : St w0 h0 h (.ob r o :: R) w) : St w0 h0 h (.ob r o' :: R) (setBlock w r o') :=
  s.write (it' := .ob r o') rfl rfl rfl rfl rfl (by unfold setBlock; simp) (fun k hk => setBlock_heap_ne hk) (setBlock_heap_eq (s.obj (o := o) (List.mem_cons_self ..)))

theorem Gs.makeMap {n : Value} (hn : n = I 0) (tk te : TypeId) (ht : TMap P t tk te) (hk : ∀ b, Gs w0 h0 h (.ob b (.map #[] 0) :: L) (K (.map (some b)))) : Gs w0 h0 h L (Do P (V (Instr.makeMap t (some n))) K) := ⟨fun w s => by
  subst hn
  have hr : (V (Instr.makeMap t (some (I 0)))).run P w = .ok (.value (.map (some w.heap.size))) (w.alloc (.map #[] 0)) := by
    apply V_run2
    unfold Instr.makeMap
    simp only [Sem.run_bind, runU ht.spec, Result.andThen_ok]
    rfl
  exact Do.of hr ((hk _).run _ (s.alloc _ _ (fun hp e => e) rfl))⟩
theorem Gs.makeMap0 (hk : ∀ b, Gs w0 h0 h (.ob b (.map #[] 0) :: L) (K (.map (some b)))) : Gs w0 h0 h L (Do P (V (Instr.makeMap t none)) K) := ⟨fun w s => by
  have hr : (V (Instr.makeMap t none)).run P w = .ok (.value (.map (some w.heap.size))) (w.alloc (.map #[] 0)) := rfl
  exact Do.of hr ((hk _).run _ (s.alloc _ _ (fun hp e => e) rfl))⟩

/-- What a look-up yields. -/
abbrev lk1 (ev : β → Value) (z : Value) (l : List (κ × β)) (k : κ) : Value := ((mget l k).map ev).getD z
abbrev lk2 (ev : β → Value) (z : Value) (l : List (κ × β)) (k : κ) (ok : Bool) : Value := if ok then .tuple #[lk1 ev z l k, .bool (mget l k).isSome] else lk1 ev z l k
theorem Yd.lookup {S : WP} [ht : TMap P t tk te] [hkt : KeyT P tk ek] [hz : TZv P te z] {key : Value} (hkey : key = ek k) (ok : Bool) (hS : ∀ w, S w → w.heap[r]? = some (mO ek ev l)) : Yd P S (V (Instr.lookup t (.map (some r)) key ok)) (lk2 ev z l k ok) := ⟨fun w s => by
  rw [hkey]; exact run_lookup (hS w s) k ok⟩
theorem Gs.lookup (k : κ) [ht : TMap P t tk te] [hkt : KeyT P tk ek] [hz : TZv P te z] [ho : Ob L r (mO ek ev l)] {key : Value} (hkey : key = ek k) (hk : Gs w0 h0 h L (K (lk1 ev z l k))) : Gs w0 h0 h L (Do P (V (Instr.lookup t (.map (some r)) key false)) K) :=
  haveI := Yd.lookup (P := P) (S := St w0 h0 h L) (t := t) (ev := ev) hkey false (fun w s => s.obj ho.mem)
  G.step hk
theorem Gs.lookup2 (k : κ) [ht : TMap P t tk te] [hkt : KeyT P tk ek] [hz : TZv P te z] [ho : Ob L r (mO ek ev l)] {key : Value} (hkey : key = ek k) (hk : Gs w0 h0 h L (K (.tuple #[lk1 ev z l k, .bool (mget l k).isSome]))) : Gs w0 h0 h L (Do P (V (Instr.lookup t (.map (some r)) key true)) K) :=
  haveI := Yd.lookup (P := P) (S := St w0 h0 h L) (t := t) (ev := ev) hkey true (fun w s => s.obj ho.mem)
  G.step hk
theorem Gs.qlookup (k : κ) [ht : TMap P t tk te] [hkt : KeyT P tk ek] [hz : TZv P te z] [ho : Ob L r (mO ek ev l)] {key : Value} (hkey : key = ek k) (hk : Gs w0 h0 h L (KQ (ObC r (mO ek ev l)) (lk1 ev z l k))) : Gs w0 h0 h L (Qk P (V (Instr.lookup t (.map (some r)) key false)) KQ) :=
  haveI := Yd.lookup (P := P) (S := ObC r (mO ek ev l)) (t := t) (ev := ev) hkey false (fun w s => s)
  G.qk (ObC r (mO ek ev l)) (fun w s => s.obj ho.mem) hk
theorem Gs.lookupF (k : κ) [ht : TMap P t tk te] [hkt : KeyT P tk ek] [hz : TZv P te z] (hr : h r = some (mO ek ev l)) {key : Value} (hkey : key = ek k) (hk : Gs w0 h0 h L (K (lk1 ev z l k))) : Gs w0 h0 h L (Do P (V (Instr.lookup t (.map (some r)) key false)) K) :=
  haveI := Yd.lookup (P := P) (S := St w0 h0 h L) (t := t) (ev := ev) hkey false (fun w s => s.frz hr)
  G.step hk
theorem Gs.qlookupF (k : κ) [ht : TMap P t tk te] [hkt : KeyT P tk ek] [hz : TZv P te z] (hr : h r = some (mO ek ev l)) {key : Value} (hkey : key = ek k) (hk : Gs w0 h0 h L (KQ (ObC r (mO ek ev l)) (lk1 ev z l k))) : Gs w0 h0 h L (Qk P (V (Instr.lookup t (.map (some r)) key false)) KQ) :=
  haveI := Yd.lookup (P := P) (S := ObC r (mO ek ev l)) (t := t) (ev := ev) hkey false (fun w s => s)
  G.qk (ObC r (mO ek ev l)) (fun w s => s.frz hr) hk
theorem Gs.withOb {X : WP} {o : Obj} [ho : Ob L r o] (hk : Gs w0 h0 h L X) : Gs w0 h0 h L (With (ObC r o) X) := G.with (fun w s => s.obj ho.mem) hk
theorem Gs.withObF {X : WP} {o : Obj} (hr : h r = some o) (hk : Gs w0 h0 h L X) : Gs w0 h0 h L (With (ObC r o) X) := G.with (fun w s => s.frz hr) hk

theorem Gs.mapUpdate (k : κ) (v : β) [ht : TMap P t tk te] [hkt : KeyT P tk ek] [ho : TakeOb L r (mO ek ev l) R] {key val : Value} (hkey : key = ek k) (hval : val = ev v) (hk : Gs w0 h0 h (.ob r (mO ek ev (mset l k v)) :: R) (K undef)) : Gs w0 h0 h L (Do P (U (Instr.mapUpdate t (.map (some r)) key val)) K) := Gs.perm ho.perm ⟨fun w s => by
  subst hkey
  subst hval
  exact Do.of (run_mapUpdate (s.obj (List.mem_cons_self ..)) k v) (hk.run _ s.setOb)⟩
theorem Gs.mapEntry (k : κ) (z0 : β) [ht : TMap P t tk te] [hkt : KeyT P tk ek] [hz : TZv P te z] (hz0 : ev z0 = z) [ho : TakeOb L r (mO ek ev l) R] {key : Value} (hkey : key = ek k)
    (hk : ∀ i : Nat, mix (mset l k ((mget l k).getD z0)) k = some i → Gs w0 h0 h (.ob r (mO ek ev (mset l k ((mget l k).getD z0))) :: R) (K (.tuple #[ev ((mget l k).getD z0), I i]))) : Gs w0 h0 h L (Do P (V (Instr.mapEntry t (.map (some r)) key)) K) := Gs.perm ho.perm ⟨fun w s => by
  subst hkey
  obtain ⟨i, h1, h2⟩ := run_mapEntry (P := P) (t := t) hz0 (s.obj (List.mem_cons_self ..)) k
  exact Do.of h2 ((hk i h1).run _ s.setOb)⟩
theorem Gs.entryStore {i : Nat} (v : β) (hi : mix l k = some i) [ho : TakeOb L r (mO ek ev l) R] {val : Value} (hval : val = ev v)
    (hk : Gs w0 h0 h (.ob r (mO ek ev (mset l k v)) :: R) (K undef)) : Gs w0 h0 h L (Do P (U (Instr.entryStore t (.map (some r)) (I i) val)) K) := Gs.perm ho.perm ⟨fun w s => by
  subst hval
  exact Do.of (run_entryStore (s.obj (List.mem_cons_self ..)) hi v) (hk.run _ s.setOb)⟩
theorem mset_mset {κ β : Type} [DecidableEq κ] {k : κ} {u v : β} : ∀ l : List (κ × β), mset (mset l k u) k v = mset l k v
  | [] => by simp [mset]
  | (k2, v2) :: r => by
    rw [mset, mset]
    split
    · simp [mset]
    · rename_i hne
      simp [mset, hne, mset_mset r]

/-- An owned object is frozen. -/
theorem Gs.freezeOb {X : WP} {o : Obj} (r : Nat) [ht : TakeOb L r o R] (hk : ∀ h', Hle h h' → h' r = some o → Gs w0 h0 h' R X) : Gs w0 h0 h L X := ⟨fun w s => by
  have s := s.perm ht.perm
  obtain ⟨hok, hfr⟩ := s.items (.ob r o) (by simp)
  have hap := List.pairwise_cons.1 s.apart
  obtain ⟨g1, g2⟩ := hfr r rfl
  let h' : Hp := fun k => if k = r then some o else h k
  have hle : Hle h h' := fun k o e => by
    show (if k = r then _ else _) = _
    split
    · rename_i ek; subst ek; rw [g2] at e; cases e
    · exact e
  refine (hk h' hle (if_pos rfl)).run w ⟨s.below, s.up.trans hle, fun k hk => ?_, fun k o' e => ?_, fun it hi => ⟨(s.items it (by simp [hi])).1, fun c hc => ?_⟩, hap.2, s.drawn⟩
  · show (if k = r then _ else _) = _
    rw [if_neg (by omega)]
    exact s.old k hk
  · replace e : (if k = r then some o else h k) = some o' := e
    split at e
    · rename_i ek; subst ek; cases e; exact hok
    · exact s.frozen k o' e
  · obtain ⟨q1, q2⟩ := (s.items it (by simp [hi])).2 c hc
    refine ⟨q1, ?_⟩
    show (if c = r then _ else _) = _
    rw [if_neg (fun e => ?_)]
    · exact q2
    · subst e
      exact hap.1 it hi c rfl hc⟩

/-! ### Ranging -/
theorem Gs.rangeMap [ht : TMap P t tk te] {l : List (κ × β)} [ho : Ob L r (mO ek ev l)] (hk : ∀ b, Gs w0 h0 h (.ob b (.mapIter (some r) l.length #[] l.length) :: L) (K (ptr b 0))) : Gs w0 h0 h L (Do P (V (Instr.range t (.map (some r)))) K) := ⟨fun w s => by
  have hr : (V (Instr.range t (.map (some r)))).run P w = .ok (.value (ptr w.heap.size 0)) (w.alloc (.mapIter (some r) l.length #[] l.length)) := V_run2 (run_range_map w t tk te r _ _ ht.spec (s.obj ho.mem))
  exact Do.of hr ((hk _).run _ (s.alloc _ _ (fun hp e => e) rfl))⟩
/-- One step: all was seen, or an entry that was not. -/
theorem Gs.nextMap {ty : TypeId} {b : Nat} {seen : List Nat} {l : List (κ × β)} [ho : Ob L r (mO ek ev l)] [hi : TakeOb L b (.mapIter (some r) l.length seen.toArray l.length) R]
    (hover : (∀ i, i < l.length → i ∈ seen) → Gs w0 h0 h (.ob b (.mapIter (some r) l.length seen.toArray l.length) :: R) (K (.tuple #[.bool false])))
    (hk : ∀ i (hi : i < l.length), i ∉ seen → Gs w0 h0 h (.ob b (.mapIter (some r) l.length (seen ++ [i]).toArray l.length) :: R) (K (.tuple #[.bool true, ek l[i].1, ev l[i].2]))) :
    Gs w0 h0 h L (Do P (V (Instr.next (ptr b 0) false ty)) K) := ⟨fun w s => by
  have hmap : w.heap[r]? = some (.map (mEs ek ev 0 l).toArray l.length) := s.obj ho.mem
  have s' := s.perm hi.perm
  have hborn : ∀ x ∈ (mEs ek ev 0 l).toArray.toList, ∃ (i : Nat) (hi : i < l.length), x = ⟨ek l[i].1, ev l[i].2, i⟩ := fun x hx => by
    obtain ⟨i, hx⟩ := List.mem_iff_getElem?.1 hx
    rw [mEs_get] at hx
    cases hl : l[i]? with
    | none => rw [hl] at hx; cases hx
    | some p =>
      rw [hl] at hx
      obtain ⟨hlt, he⟩ := List.getElem?_eq_some_iff.1 hl
      cases hx
      exact ⟨i, hlt, by rw [he, Nat.zero_add]⟩
  rcases run_next_at (P := P) w ty b r l.length l.length seen.toArray (mEs ek ev 0 l).toArray l.length (s'.obj (List.mem_cons_self ..)) hmap (fun x hx => by obtain ⟨i, hi, rfl⟩ := hborn x hx; exact hi) (Nat.le_refl _) with ⟨h1, h2⟩ | ⟨e, he, w1, hw1, h2⟩
  · refine Do.of (V_run2 h2) ((hover fun i hi => ?_).run w s')
    by_cases hm : i ∈ seen
    · exact hm
    · exfalso
      have hg : (mEs ek ev 0 l).toArray[i]? = some ⟨ek l[i].1, ev l[i].2, i⟩ := by rw [List.getElem?_toArray, mEs_get, List.getElem?_eq_getElem hi]; simp
      have : (⟨ek l[i].1, ev l[i].2, i⟩ : MapEntry) ∈ leftOf (mEs ek ev 0 l).toArray seen.toArray := by
        unfold leftOf
        rw [Array.mem_filter]
        exact ⟨Array.mem_of_getElem? hg, by simpa using hm⟩
      rw [Array.eq_empty_of_size_eq_zero h1] at this
      simp at this
  · unfold leftOf at he
    rw [← Array.mem_def, Array.mem_filter] at he
    obtain ⟨i, hi', rfl⟩ := hborn e (by rw [← Array.mem_def]; exact he.1)
    have hns : i ∉ seen := by simpa using he.2
    have s1 : St w0 h0 h (.ob b (.mapIter (some r) l.length seen.toArray l.length) :: R) w1 := by
      rcases hw1 with rfl | rfl
      · exact s'
      · exact s'.drew
    refine Do.of (V_run2 h2) ((hk i hi' hns).run _ ?_)
    have := s1.setOb (o' := .mapIter (some r) l.length (seen ++ [i]).toArray l.length)
    simpa using this⟩
end

/-! ### Structs of integers as keys -/
theorem ck_flat {P : Program} : ∀ (d t n : Nat), flatI P d t = some n → ∀ (D : Nat) (b : Bool) (zs : List Int) (w : World), d ≤ D → zs.length = n →
    (Instr.checkKey b D t (valI P t zs)).run P w = .ok () w
  | 0, t, n, h => by simp [flatI] at h
  | d + 1, t, n, h => by
    intro D b zs w hD ha
    obtain ⟨D, rfl⟩ : ∃ D', D = D' + 1 := ⟨D - 1, by omega⟩
    unfold flatI at h
    cases hu : P.underlying t with
    | none => rw [hu] at h; simp at h
    | some dd =>
      rw [hu] at h
      cases dd <;> try (simp at h; done)
      case int k =>
        cases k <;> try (simp at h; done)
        simp only [Option.some.injEq] at h
        subst h
        match zs, ha with
        | [a], _ =>
          unfold valI
          rw [hu]
          unfold Instr.checkKey
          rw [Sem.run_bind, runU hu, Result.andThen_ok]
          rfl
      case struct fs =>
        by_cases hst : P.stoodInHeld t = true
        · simp [hst] at h
        · simp only [hst, Bool.false_eq_true, if_false] at h
          unfold valI
          rw [hu]
          simp only
          unfold Instr.checkKey
          rw [Sem.run_bind, runU hu, Result.andThen_ok]
          have key : ∀ (l : List Field) (pa zs : List Int) (w : World), flatF P (flatI P d) l pa.length = some (pa.length + zs.length) →
              (forIn l () (fun f _ => do
                if f.name ≠ "_" then Instr.checkKey b D f.type (← part f.type ((pa ++ zs).map I).toArray f.offset)
                pure (ForInStep.yield ())) : Sem Unit).run P w = .ok () w := by
            intro l
            induction l with
            | nil => intro pa zs w hf; rfl
            | cons f l ih =>
              intro pa zs w hf
              unfold flatF at hf
              by_cases hc : f.name ≠ "_" ∧ f.offset = pa.length
              · rw [if_pos hc] at hf
                cases hg : flatI P d f.type with
                | none => rw [hg] at hf; simp at hf
                | some m =>
                  cases hi : P.info? f.type with
                  | none => rw [hg, hi] at hf; simp at hf
                  | some i =>
                    rw [hg, hi] at hf
                    simp only at hf
                    by_cases hsz : i.size = m
                    · rw [if_pos hsz] at hf
                      have hmono : ∀ (l : List Field) (o r : Nat), flatF P (flatI P d) l o = some r → o ≤ r := by
                        intro l
                        induction l with
                        | nil => intro o r h; simp [flatF] at h; omega
                        | cons f l ih =>
                          intro o r h
                          unfold flatF at h
                          split at h
                          · split at h
                            · split at h
                              · have := ih _ _ h; omega
                              · cases h
                            · cases h
                          · cases h
                      have hle := hmono _ _ _ hf
                      have ea : zs = zs.take m ++ zs.drop m := (List.take_append_drop m zs).symm
                      have la : (zs.take m).length = m := by simp; omega
                      have p1 := part_flat hg hi hsz pa (zs.take m) (zs.drop m) la w
                      rw [List.append_assoc, ← ea] at p1
                      rw [List.forIn_cons]
                      simp only [hc.1, hc.2, ne_eq, not_false_eq_true, if_true, Sem.run_bind, p1, Result.andThen_ok, ck_flat d f.type m hg D b _ w (by omega) la]
                      have := ih (pa ++ zs.take m) (zs.drop m) w (by
                          have e1 : (pa ++ zs.take m).length = pa.length + m := by simp; omega
                          have e2 : pa.length + m + (zs.drop m).length = pa.length + zs.length := by simp; omega
                          rw [e1, hf, e2])
                      rw [List.append_assoc, ← ea] at this
                      exact this
                    · rw [if_neg hsz] at hf; cases hf
              · rw [if_neg hc] at hf; cases hf
          have := key fs.toList [] zs w (by rw [List.length_nil, h]; simp [ha])
          dsimp only
          rw [Sem.run_bind, ← Array.forIn_toList]
          refine Eq.trans (congrArg (fun r => Result.andThen r _) this) ?_
          rfl

theorem sameBits_ints (n : Nat) (zs : List Int) : Instr.sameBits (n + 2) (.agg (zs.map I).toArray) (.agg (zs.map I).toArray) = true := by
  unfold Instr.sameBits
  simp only [List.size_toArray, beq_self_eq_true, Bool.true_and, List.all_eq_true]
  intro p hp
  have : ∀ (l : List Int), ∀ p ∈ (l.map I).zip (l.map I), Instr.sameBits (n + 1) p.1 p.2 = true := by
    intro l
    induction l with
    | nil => intro p hp; simp at hp
    | cons a l ih =>
      intro p hp
      simp only [List.map_cons, List.zip_cons_cons, List.mem_cons] at hp
      rcases hp with rfl | hp
      · unfold Instr.sameBits; simp
      · exact ih p hp
  exact this zs p (by simpa using hp)
theorem KeyT.ints {κ : Type} [DecidableEq κ] {P : Program} {t n : Nat} (f : κ → List Int) (hf : ∀ k k', f k = f k' → k = k') (hn : ∀ k, (f k).length = n) (hs : (match P.underlying t with | some (.struct _) => true | _ => false) = true) (h2 : flatI P 6 t = some n) [he : EqTy P t n] : KeyT P t (fun k => .agg ((f k).map I).toArray) := by
  cases hu : P.underlying t with
  | none => rw [hu] at hs; cases hs
  | some d =>
    rw [hu] at hs
    cases d <;> try (cases hs; done)
    rename_i fs
    refine ⟨fun b k w => ?_, ⟨_, hu, .inl ⟨fun k k' => rfl, fun k k' w => ?_⟩⟩, fun k => sameBits_ints 9998 (f k)⟩
    · have := ck_flat 6 t n h2 10000 b (f k) w (by decide) (hn k)
      unfold valI at this
      rw [hu] at this
      exact this
    · rw [he.eq _ _ (f k) (f k') w rfl rfl (hn k) (hn k')]
      congr 1
      rw [decide_eq_decide]
      exact ⟨hf k k', fun e => by rw [e]⟩

/-! ### A look-up that another operation may come before -/
def LkC {κ β : Type} [DecidableEq κ] (r : Nat) (ek : κ → Value) (ev : β → Value) (z : Value) (k : κ) (v : Value) : WP := fun w => ∃ l : List (κ × β), w.heap[r]? = some (mO ek ev l) ∧ lk1 ev z l k = v
section
variable {κ β : Type} [DecidableEq κ] {ek : κ → Value} {ev : β → Value} {P : Program} {t tk te : TypeId} {l : List (κ × β)} {r : Nat} {k : κ} {z : Value} {w0 : World} {h0 h : Hp} {L : List Itm} {K : Value → WP} {KQ : WP → Value → WP}
theorem Gs.qlookupC (k : κ) [ht : TMap P t tk te] [hkt : KeyT P tk ek] [hz : TZv P te z] [ho : Ob L r (mO ek ev l)] {key : Value} (hkey : key = ek k) (hk : Gs w0 h0 h L (KQ (LkC r ek ev z k (lk1 ev z l k)) (lk1 ev z l k))) : Gs w0 h0 h L (Qk P (V (Instr.lookup t (.map (some r)) key false)) KQ) :=
  haveI : Yd P (LkC r ek ev z k (lk1 ev z l k)) (V (Instr.lookup t (.map (some r)) key false)) (lk1 ev z l k) := ⟨fun w s => by
    obtain ⟨l', h1, h2⟩ := s
    rw [hkey, run_lookup h1 k false]
    simp only [Bool.false_eq_true, if_false]
    rw [← h2]⟩
  G.qk (LkC r ek ev z k (lk1 ev z l k)) (fun w s => ⟨l, s.obj ho.mem, rfl⟩) hk
theorem Gs.withLk {X : WP} {v : Value} [ho : Ob L r (mO ek ev l)] (hv : lk1 ev z l k = v) (hk : Gs w0 h0 h L X) : Gs w0 h0 h L (With (LkC r ek ev z k v) X) := G.with (fun w s => ⟨l, s.obj ho.mem, hv⟩) hk
end

/-! ### The first place where something holds, in a slice of handles -/
section
variable {H α : Type} {enc : H → List Value} {sz : Nat} {val : H → Value} {v : Value} {l : List α} {t e by_ : Nat} {P : Program} {w0 : World} {h0 h : Hp} {L : List Itm} {K : Value → WP} {rel : Hp → H → α → Prop}
theorem sIdxF_ok [ht : TSlice P t e sz by_] [he : Enc enc sz] [hl : LdE P e enc val] {f : Value} (p : α → Bool) (hr : RdF h v enc sz rel l) (hn : l.length ≤ 4611686018427387904)
    (hf : ∀ (K : Value → WP) x a, rel h x a → a ∈ l → Gs w0 h0 h L (K (.bool (p a))) → Gs w0 h0 h L (Do P (vCall f [val x]) K))
    (hk : Gs w0 h0 h L (K (I (idxOf p l 0)))) : Gs w0 h0 h L (sIdx t e P v f K) := by
  unfold sIdx
  refine Gs.lenF hr (by omega) ?_
  obtain ⟨hs, hr1, hr2⟩ := hr
  have hlen := hr2.len
  refine Gs.lp (β := Nat) (fun i => I i) (fun _ => h) (fun _ => L) (fun i => i ≤ l.length ∧ idxOf p (l.drop i) i = idxOf p l 0) (fun i => l.length - i) 0 rfl ⟨Nat.zero_le _, rfl⟩ (fun _ h => h) ?_
  rintro i ⟨hi, hR⟩ cont hc
  refine G.jk ?_; intro _
  refine G.step ?_
  refine G.ifd ?_ ?_ <;> intro hlt
  · have hlt' : i < l.length := by omega
    have hd : idxOf p (l.drop i) i = if p l[i] then (i : Int) else idxOf p (l.drop (i + 1)) (i + 1) := by
      rw [List.drop_eq_getElem_cons hlt']
      rfl
    refine Gs.indexE hr1 (by omega) ?_
    intro b o hp
    refine Gs.loadE hp ?_
    refine hf _ _ l[i] (hr2.get i (by omega) hlt') (List.getElem_mem hlt') ?_
    cases hpx : p l[i]
    · refine G.iff ?_
      refine G.add (by omega) ?_
      refine Gs.go (hc (i + 1) ⟨hlt', ?_⟩ (by omega)) rfl
      rw [← hR, hd, hpx]; simp
    · refine G.ift ?_
      rw [← hR, hd, hpx] at hk
      exact hk
  · have hi' : i = l.length := by omega
    rw [← hR, hi', List.drop_length] at hk
    exact hk
end

/-! ### Choosing what is kept -/
instance Sel.ob {L R r : List Itm} {b : Nat} {o : Obj} [h : TakeOb L b o R] [hr : Sel R r] : Sel L (.ob b o :: r) := by
  obtain ⟨Q, hq⟩ := hr.ok
  exact ⟨Q, h.perm.trans (hq.cons _)⟩
instance (priority := 500) Sel.tail {L : List Itm} : Sel L L := ⟨[], by simp⟩
instance (priority := 400) Sel.drop1 {it : Itm} {L r : List Itm} [h : Sel L r] : Sel (it :: L) r := ⟨by
  obtain ⟨R, hR⟩ := h.ok
  exact ⟨it :: R, (hR.cons it).trans List.perm_middle.symm⟩⟩

/-! ### A map of owned slices -/
section
variable {κ α : Type} [DecidableEq κ] {enc : α → List Value} {sz : Nat} {e : TypeId} {w0 : World} {h0 h : Hp} {X : WP}
abbrev vB : SlH × List α → Value := fun p => slv p.1
abbrev slI (e : TypeId) (sz : Nat) (enc : α → List Value) (p : SlH × List α) : Itm := .sl (slv p.1) e sz (fl enc p.2)
def its (e : TypeId) (sz : Nat) (enc : α → List Value) (l : List (κ × (SlH × List α))) : List Itm := l.map fun p => slI e sz enc p.2
def bfn (l : List (κ × (SlH × List α))) (k : κ) : List α := match mget l k with
  | some p => p.2
  | none => []
abbrev z0B : SlH × List α := ((none, 0, 0), [])
theorem bfn_eq (l : List (κ × (SlH × List α))) (k : κ) : bfn l k = ((mget l k).getD z0B).2 := by
  unfold bfn
  cases mget l k <;> rfl
theorem bfn_set (l : List (κ × (SlH × List α))) (k k' : κ) (p : SlH × List α) : bfn (mset l k p) k' = if k' = k then p.2 else bfn l k' := by
  unfold bfn
  rw [mget_mset]
  by_cases e : k' = k
  · rw [if_pos e, if_pos e]
  · rw [if_neg e, if_neg e]
theorem Gs.itsOut (pre : List Itm) (l : List (κ × (SlH × List α))) (k : κ) (hk : ∀ Rest, (∀ p, (its e sz enc (mset l k p)).Perm (slI e sz enc p :: Rest)) → Gs w0 h0 h (pre ++ slI e sz enc ((mget l k).getD z0B) :: Rest) X) : Gs w0 h0 h (pre ++ its e sz enc l) X := by
  cases hm : mget l k with
  | none =>
    have := hk (its e sz enc l) (fun p => by
      rw [mset_none p hm]
      unfold its
      rw [List.map_append]
      exact (List.perm_append_comm).trans (by simp))
    rw [hm] at this
    refine Gs.nilsl e sz ?_
    refine Gs.perm ?_ this
    exact List.perm_middle.symm
  | some q =>
    obtain ⟨i, h1, h2, h3, h4, _⟩ := find_some (ev := fun _ => undef) hm
    have hi : i < (its e sz enc l).length := by unfold its; simpa using h2
    have hget : (its e sz enc l)[i] = slI e sz enc q := by
      have h9 := (List.getElem?_eq_some_iff.1 h3).2
      simp only [its, List.getElem_map, h9]
    have hperm : ∀ (L : List Itm) (i : Nat) (hi : i < L.length) (x : Itm), (L.set i x).Perm (x :: L.eraseIdx i) := by
      intro L
      induction L with
      | nil => intro i hi; simp at hi
      | cons y L ih =>
        intro i hi x
        cases i with
        | zero => simp
        | succ i => exact ((ih i (by simpa using hi) x).cons y).trans (.swap _ _ _)
    have hset : ∀ p, its e sz enc (mset l k p) = (its e sz enc l).set i (slI e sz enc p) := fun p => by
      rw [h4]
      unfold its
      rw [List.map_set]
    have := hk ((its e sz enc l).eraseIdx i) (fun p => by rw [hset]; exact hperm _ i hi _)
    rw [hm] at this
    refine Gs.perm ?_ this
    refine List.Perm.append_left pre ?_
    have h5 := hperm _ i hi (its e sz enc l)[i]
    rw [List.set_getElem_self, hget] at h5
    exact h5
theorem Gs.itsIn (pre : List Itm) {l : List (κ × (SlH × List α))} {k : κ} {Rest : List Itm} (hp : ∀ p, (its e sz enc (mset l k p)).Perm (slI e sz enc p :: Rest)) (p : SlH × List α) (hk : Gs w0 h0 h (pre ++ its e sz enc (mset l k p)) X) : Gs w0 h0 h (pre ++ slI e sz enc p :: Rest) X :=
  Gs.perm (List.Perm.append_left pre (hp p).symm) hk
theorem Gs.itsFreeze [he : Enc enc sz] (hsz : sz ≠ 0) (pre : List Itm) : ∀ (l : List (κ × (SlH × List α))) {h : Hp}, (∀ h', Hle h h' → (∀ p ∈ l, RdE h' (slv p.2.1) enc sz p.2.2) → Gs w0 h0 h' pre X) → Gs w0 h0 h (pre ++ its e sz enc l) X
  | [], h, hk => by
    have := hk h (Hle.refl h) (fun p hp => ((by cases hp)))
    unfold its
    rw [List.map_nil, List.append_nil]
    exact this
  | q :: l, h, hk => by
    have hq : (pre ++ its e sz enc (q :: l)).Perm (.sl (slv q.2.1) e sz (fl enc q.2.2) :: (pre ++ its e sz enc l)) := List.perm_middle
    refine Gs.perm hq ?_
    refine Gs.freezeE (enc := enc) (v := slv q.2.1) hsz ?_
    intro h' hle hr
    refine Gs.itsFreeze hsz pre l fun h2 hle2 hall => hk h2 (hle.trans hle2) fun p hp => ?_
    rcases List.mem_cons.1 hp with rfl | hp
    · exact hr.mono hle2
    · exact hall p hp
/-- What a look-up in such a map, frozen, finds. -/
theorem lkB {h : Hp} {l : List (κ × (SlH × List α))} (hall : ∀ p ∈ l, RdE h (slv p.2.1) enc sz p.2.2) (k : κ) : ∃ q : SlH, lk1 vB (.slice none 0 0) l k = slv q ∧ RdE h (slv q) enc sz (bfn l k) := by
  unfold lk1 bfn
  cases hm : mget l k with
  | none => exact ⟨(none, 0, 0), rfl, RdE.nil h enc sz⟩
  | some p =>
    obtain ⟨i, _, _, h3, _, _⟩ := find_some (ev := fun _ => undef) hm
    exact ⟨p.1, rfl, hall (k, p) (List.mem_of_getElem? h3)⟩
end
/-- Numbers in a map. -/
def ln {κ : Type} [DecidableEq κ] (l : List (κ × Int)) (k : κ) : Int := (mget l k).getD 0
theorem lkI {κ : Type} [DecidableEq κ] (l : List (κ × Int)) (k : κ) : lk1 (fun n : Int => I n) (I 0) l k = I (ln l k) := by
  unfold lk1 ln
  cases mget l k <;> rfl
theorem ln_set {κ : Type} [DecidableEq κ] (l : List (κ × Int)) (k k' : κ) (v : Int) : ln (mset l k v) k' = if k' = k then v else ln l k' := by
  unfold ln
  rw [mget_mset]
  split <;> rfl

section
variable {κ β : Type} [DecidableEq κ] {ek : κ → Value} {ev : β → Value} {P : Program} {r : Nat} {w0 : World} {h0 h : Hp} {L R : List Itm} {K : Value → WP}
/-- What the step handed out, read behind it. -/
theorem Gs.entryMap {b i : Nat} {seen : List Nat} {l : List (κ × β)} (hi : i < l.length) [ho : Ob L r (mO ek ev l)] [hb : Ob L b (.mapIter (some r) l.length (seen ++ [i]).toArray l.length)] (hk : Gs w0 h0 h L (K (.tuple #[ek l[i].1, ev l[i].2]))) :
    Gs w0 h0 h L (Do P (V (Instr.entry (ptr b 0))) K) := ⟨fun w s => by
  have hmap : w.heap[r]? = some (.map (mEs ek ev 0 l).toArray l.length) := s.obj ho.mem
  have hit := s.obj hb.mem
  have hsz : (mEs ek ev 0 l).length = l.length := mEs_len l 0
  have hget : ∀ j (hj : j < l.length), (mEs ek ev 0 l)[j]'(by omega) = ⟨ek l[j].1, ev l[j].2, j⟩ := fun j hj => by
    have := mEs_get (ek := ek) (ev := ev) l 0 j
    rw [List.getElem?_eq_getElem (by omega), List.getElem?_eq_getElem hj] at this
    simpa using this
  have hmem : (⟨ek l[i].1, ev l[i].2, i⟩ : MapEntry) ∈ (mEs ek ev 0 l).toArray.toList := by
    rw [← hget i hi]; exact List.getElem_mem _
  have hnd : ((mEs ek ev 0 l).toArray.toList.map (·.born)).Nodup := by
    have : ((mEs ek ev 0 l).toArray.toList.map (·.born)) = List.range l.length := by
      apply List.ext_getElem
      · simp [hsz]
      · intro j h1 h2
        simp only [List.getElem_map, List.getElem_range]
        rw [hget j (by simpa using h2)]
    rw [this]
    exact List.nodup_range
  have hit' : w.heap[b]? = some (.mapIter (some r) l.length (seen.toArray.push i) l.length) := by rw [hit]; simp
  exact Do.of (V_run (run_entry_at w b r l.length seen.toArray (mEs ek ev 0 l).toArray l.length ⟨ek l[i].1, ev l[i].2, i⟩ hit' hmap hmem hnd)) (hk.run w s)⟩
end
end Go.Sk
