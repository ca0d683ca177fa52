/-
  Lemmas for the proof of the statement of this claim: a part of the road, no statement of its own. Conditions: those that each lemma names.
-/
import Derived.Test.YtgdochemlbjnlaaGreatKb
import Derived.Below
import Derived.ChangeSame
import Derived.ProofKit
import Derived.OpenShut
import Derived.Deep.DeepHandedRow
import Derived.Deep.DeepWitnessRowRef
import Derived.Lib.LaidTab
import Derived.Lib.SmallJoins
import Derived.Stop.LaidErr
import Derived.LaidMore
import Derived.WideKeyArgs
import Derived.SevenTiedAt
import Derived.Test.YtgdochemlbjnlaaGreatKf
import Derived.Deep.Slices
import Derived.Laws.IdiomArrays
section
/-
  From a function's contract to a law's row: what was read before the call reads as before.
-/
set_option linter.unusedVariables false
namespace Go.Sk
open Go Go.RowKit Go.WideShapes Go.ChangeShapes Go.ChangeAt
variable {M : Mode}
section
variable {H : Type} {enc : TypeId × Value → H} {P : Program}
def rdAll (P : Program) (ts : List TypeId) : Bool := ts.all fun t => P.readableRec t && decide (t < P.types.size)
theorem trodAll_stays (hl : laidOutB P = true) {W W' : World} {sp : Nat → Bool} : ∀ (ts : List TypeId) (vs : List Value) (ds : List (DataW H)) (ps : List MemPlace), rdAll P ts = true → DataW.TrodAll enc P W 0 (fun _ => true) true ts vs ds ps →
    (∀ p ∈ ps, W.sameAt W' p) → (∀ p ∈ ps, sp p.block = true) → DataW.TrodAll enc P W' 0 sp true ts vs ds ps
  | [], vs, ds, ps, _, h, _, _ => by
    obtain ⟨rfl, rfl, rfl⟩ := trodAll_nil h
    exact trodAll_mk0
  | t :: ts, vs, ds, ps, hr, h, hs, hsp => by
    obtain ⟨v, vs', d, ds', p, q, rfl, rfl, rfl, h1, h2⟩ := trodAll_cons h
    unfold rdAll at hr
    rw [List.all_cons, Bool.and_eq_true, Bool.and_eq_true] at hr
    exact trodAll_cons_mk (WideElems.Trod_stays hl hr.1.1 (of_decide_eq_true hr.1.2) h1 (fun x hx => hs x (List.mem_append_left _ hx)) (fun x hx => hsp x (List.mem_append_left _ hx)))
      (trodAll_stays hl ts vs' ds' q hr.2 h2 (fun x hx => hs x (List.mem_append_right _ hx)) (fun x hx => hsp x (List.mem_append_right _ hx)))
theorem post_below {f : Func} {s : ChangeSpec} {apart fresh handsOn again : Bool} {W W' : World} {args : Array Value} {v : Value} {ds gs : List (DataW H)} {before pa pv : List MemPlace}
    (hW : DataW.Whole enc P f.params.toList s.vars apart W args.toList ds gs before)
    (hres : ∀ (b : Nat) (sp : Nat → Bool) (hd : Bool), DataW.TrodAll enc P W' b sp hd f.resultTypes.toList (v.resultList f.resultTypes.size) (s.fn H (ds ++ gs)).results [])
    (hargs : ∀ sp : Nat → Bool, (∀ p ∈ before, sp p.block = true) → DataW.TrodAll enc P W' 0 sp true f.params.toList args.toList (s.fn H (ds ++ gs)).args pa)
    (hvars : ∀ sp : Nat → Bool, (∀ p ∈ before, sp p.block = true) → DataW.TrodVars enc P W' sp s.vars (s.fn H (ds ++ gs)).vars pv)
    (hps : before = pa ++ pv) (hb : Below W.heap.size W W')
    (hok : ∀ (j : Nat) (t : TypeId) (r : Value), f.resultTypes[j]? = some t → (v.resultList f.resultTypes.size)[j]? = some r → Value.okWide P W' .any 0 t r) :
    s.post enc P f apart fresh handsOn again W args v W' := by
  have hlt : ∀ p ∈ before, p.block < W.heap.size := fun p hp => hW.lt p hp
  have hold : ∀ p ∈ before, (fun b => decide (b < W.heap.size)) p.block = true := fun p hp => by simpa using hlt p hp
  refine ⟨ds, gs, before, [], pa, pv, hW, hres _ _ _, hargs _ hold, hvars _ hold, World.keptBut_mono (fun p hp => ⟨hp, ?_⟩) (hb.frame (· ∈ before)), fun _ => ?_⟩
  · rw [hps, List.mem_append] at hp
    exact Or.inr hp
  · obtain ⟨_, _, _, _, _, hz, hn⟩ := hW
    refine ⟨hok, _, _, ([] ++ pa) ++ pv, ⟨[] ++ pa, pv, trodAll_append (hargs _ (fun _ _ => rfl)) (hres _ _ _), hvars _ (fun _ _ => rfl), rfl, ?_, ?_⟩, ?_⟩
    · intro b off hp
      have hin : MemPlace.cell b off ∈ before := by rw [hps]; simpa using hp
      rw [hb.frozen (hlt _ hin)]
      exact hz b off hin
    · intro ha
      have := hn ha
      rw [hps] at this
      simpa using this
    · intro p hp _
      rw [hps]
      simpa using hp
/-- A law's post: true, and all reads as before. -/
theorem law_post {f : Func} {s : ChangeSpec} {apart fresh handsOn again : Bool} {W W' : World} {args : Array Value} {ds gs : List (DataW H)} {before : List MemPlace} {tb : TypeId}
    (hl : laidOutB P = true) (hr : rdAll P f.params.toList = true) (hu : P.underlying tb = some .bool) (hrt : f.resultTypes = #[tb]) (hv : s.vars = [])
    (hW : DataW.Whole enc P f.params.toList s.vars apart W args.toList ds gs before) (hs : s.fn H (ds ++ gs) = { results := [.lit (.bool true)], args := ds }) (hb : Below W.heap.size W W') :
    s.post enc P f apart fresh handsOn again W args (.bool true) W' := by
  have hlt : ∀ p ∈ before, p.block < W.heap.size := fun p hp => hW.lt p hp
  have hW' := hW
  obtain ⟨p, q, hA, hV, hbf, hfz, hnd⟩ := hW'
  rw [hv] at hV
  obtain ⟨rfl, rfl⟩ := trodVars_none hV
  rw [List.append_nil] at hbf
  refine post_below (pa := p) (pv := []) hW ?_ ?_ ?_ (by rw [hbf]; simp) hb ?_
  · intro b sp hd
    rw [hs, hrt]
    exact trodAll_mk1 (shut_bool hu true)
  · intro sp hsp
    rw [hs]
    refine trodAll_stays hl _ _ _ _ hr hA (fun x hx => hb.same (hlt x (by rw [hbf]; exact hx))) (fun x hx => hsp x (by rw [hbf]; exact hx))
  · intro sp hsp
    rw [hs, hv]
    rfl
  · exact ok_one hrt rfl (okWide_bool_mk hu true)
theorem law_calls {f : FuncId} {args : List Value} {W : World} (hc : Ct P f args (World.hp W) (fun _ v => v = .bool true)) : Calls P f ⟨args⟩ W fun e W' => e = .returned (.bool true) ∧ Below W.heap.size W W' :=
  Calls.mono (hc W (Hle.refl _)) fun e w' he => by
    cases e with
    | panicked c => exact he.elim
    | outgrown => exact he.elim
    | returned v =>
      obtain ⟨h1, ⟨h', h2, h3, h4, h5⟩, h6⟩ := he
      exact ⟨by rw [h5], h1⟩
theorem law_end {f : Func} {fid : FuncId} {s : ChangeSpec} {apart fresh handsOn again : Bool} {W : World} {args : List Value} {ds gs : List (DataW H)} {before : List MemPlace} {tb : TypeId}
    (hl : laidOutB P = true) (hr : rdAll P f.params.toList = true) (hu : P.underlying tb = some .bool) (hrt : f.resultTypes = #[tb]) (hv : s.vars = [])
    (hW : DataW.Whole enc P f.params.toList s.vars apart W args ds gs before) (hs : s.fn H (ds ++ gs) = { results := [.lit (.bool true)], args := ds })
    (hc : Ct P fid args (World.hp W) (fun _ v => v = .bool true)) :
    Calls P fid ⟨args⟩ W fun e W' => ∃ v, e = .returned v ∧ s.post enc P f apart fresh handsOn again W ⟨args⟩ v W' :=
  Calls.mono (law_calls hc) fun e w' he => ⟨_, he.1, law_post hl hr hu hrt hv hW hs he.2⟩
end
theorem str_eq (s : ByteArray) : Value.string s = Value.string ⟨s.data.toList.toArray⟩ := by
  obtain ⟨⟨l⟩⟩ := s
  rfl
theorem str_len (s : ByteArray) : s.data.toList.length = s.size := by rw [Array.length_toList]; rfl
theorem hp_cell {W w : World} (h : Hle (World.hp W) (World.hp w)) {b : Nat} {o : Obj} (e : W.heap[b]? = some o) : w.heap[b]? = some o := h b o e
theorem hp_cell' {W w : World} (h : Hle (World.hp W) (World.hp w)) {a : Addr} {v : Value} (e : W.cell? a = some v) : w.cell? a = some v := by
  obtain ⟨b, o, sp⟩ := a
  unfold World.cell? at *
  cases hb : W.heap[b]? with
  | none => simp [hb] at e
  | some x =>
    have := h b x hb
    unfold World.hp at this
    rw [this]
    rw [hb] at e
    exact e
end Go.Sk
namespace Go.Sk
open Go Go.RowKit Go.WideShapes Go.ChangeShapes Go.ChangeAt
theorem var_mono {P : Program} {W w : World} {n : String} {cs : Array Value} (h : Hle (World.hp W) (World.hp w)) (e : W.var? P n = some cs) : w.var? P n = some cs := by
  unfold World.var? at *
  cases hg : P.globalNamed n with
  | none => rw [hg] at e; cases e
  | some g =>
    rw [hg] at e
    simp only [Option.bind_some] at *
    cases hb : W.heap[g]? with
    | none => rw [hb] at e; cases e
    | some x =>
      have := h g x hb
      unfold World.hp at this
      rw [this]
      rw [hb] at e
      exact e
theorem cell_hcell {W : World} {b o : Nat} {v : Value} (e : W.cell? ⟨b, o, none⟩ = some v) : hcell (World.hp W) b o = some v := by
  unfold hcell World.hp
  unfold World.cell? at e
  cases hb : W.heap[b]? with
  | none => simp [hb] at e
  | some x => cases x <;> simp [hb] at e ⊢ <;> exact e
end Go.Sk
end

section
/-
  Opening a law's parameters: arrays of integers, structs of two integers, slices.
-/
set_option linter.unusedVariables false
namespace Go.Sk
open Go Go.RowKit Go.WideShapes Go.ChangeShapes Go.ChangeAt
variable {M : Mode}
section
variable {H : Type} {encH : TypeId × Value → H} {P : Program} {W : World} {base : Nat} {spare : Nat → Bool} {held : Bool}
theorem op_int {n : Nat} {t : TypeId} {k : IntKind} {cs : List Value} {x : DataW H × List MemPlace} (ht : P.underlying t = some (.int k)) (h : DataW.trod encH P W base spare held n t cs = some x) : ∃ z : Int, cs = [.int k z] ∧ (Lit.int k z).wf = true := by
  obtain ⟨z, h1, _, h2⟩ := DataW.trod_int ht h
  exact ⟨z, h1, h2⟩
theorem op_ints {n m : Nat} {t e : TypeId} {k : IntKind} {cs : List Value} {x : DataW H × List MemPlace} (ht : P.underlying t = some (.array n e)) (he : P.underlying e = some (.int k)) (hc : P.cellsOf e = 1) (hct : P.cellsOf t = n)
    (h : DataW.trod encH P W base spare held m t cs = some x) : ∃ zs : List Int, zs.length = n ∧ cs = zs.map (Value.int k) ∧ ∀ z ∈ zs, (Lit.int k z).wf = true := by
  obtain ⟨xs, m', _, _, hl, hxl, hx⟩ := DataW.trod_array ht h
  rw [hct] at hl
  have each : ∀ i (hi : i < cs.length), ∃ z, cs[i] = .int k z ∧ (Lit.int k z).wf = true := by
    intro i hi
    have h1 := hx i (by omega)
    rw [hc, Nat.mul_one, List.getElem?_eq_getElem (by omega)] at h1
    obtain ⟨z, h2, h3⟩ := op_int he h1
    refine ⟨z, ?_, h3⟩
    have h4 : ((cs.drop i).take 1)[0]? = some (.int k z) := by rw [h2]; rfl
    rw [List.getElem?_take, if_pos (by decide), List.getElem?_drop, Nat.add_zero, List.getElem?_eq_getElem hi] at h4
    exact Option.some.inj h4
  refine ⟨cs.map fun v => match v with | .int _ z => z | _ => 0, by rw [List.length_map]; exact hl, ?_, ?_⟩
  · apply List.ext_getElem
    · simp
    · intro i h1 h2
      obtain ⟨z, h3, _⟩ := each i h1
      simp [h3]
  · intro z hz
    obtain ⟨v, hv, rfl⟩ := List.mem_map.1 hz
    obtain ⟨i, hi, rfl⟩ := List.getElem_of_mem hv
    obtain ⟨z, h3, h4⟩ := each i hi
    rw [h3]
    exact h4
theorem add_zero' (a : Addr) : a.add 0 = a := by
  unfold Addr.add
  exact if_pos rfl
theorem op_slice {α : Type} {enc : α → List Value} {sz : Nat} [he : Enc enc sz] {Q : α → Prop} {n : Nat} {t e : TypeId} {v : Value} {x : DataW H × List MemPlace} (ht : P.underlying t = some (.slice e)) (hsz : P.cellsOf e = sz) (h0 : sz ≠ 0)
    (hop : ∀ n cs x, DataW.trod encH P W 0 (fun _ => true) held n e cs = some x → ∃ a, cs = enc a ∧ Q a) (h : DataW.trod encH P W 0 (fun _ => true) held n t [v] = some x) :
    ∃ l : List α, RdE (World.hp W) v enc sz l ∧ (∀ a ∈ l, Q a) ∧ l.length ≤ 9223372036854775807 := by
  rcases Go.Deep.open_slice ht h with ⟨h1, _⟩ | ⟨a, len, cap, m, n', D, Pl, h1, _, hlc, hcap, hm, _, hx⟩
  · simp only [List.cons.injEq, and_true] at h1
    subst h1
    exact ⟨[], RdE.nil _ _ _, (fun a ha => by cases ha), by simp⟩
  · simp only [List.cons.injEq, and_true] at h1
    subst h1
    simp only [if_true] at hm
    have build : ∀ k, k ≤ len → ∃ l : List α, l.length = k ∧ ∀ i (hi : i < l.length), W.cells? 0 (a.add (i * sz)) sz = some (enc l[i]) ∧ Q l[i] := by
      intro k
      induction k with
      | zero => exact fun _ => ⟨[], rfl, fun i hi => by simp at hi⟩
      | succ k ih =>
        intro hk
        obtain ⟨l, hl, hli⟩ := ih (by omega)
        obtain ⟨cs', h2, h3⟩ := hx k (by omega)
        rw [hsz] at h2
        obtain ⟨y, h4, h5⟩ := hop _ _ _ h3
        subst h4
        refine ⟨l ++ [y], by simp [hl], fun i hi => ?_⟩
        rw [List.length_append, List.length_singleton] at hi
        by_cases hik : i < l.length
        · rw [List.getElem_append_left hik]
          exact hli i hik
        · have : i = l.length := by omega
          subst this
          rw [List.getElem_append_right (Nat.le_refl _)]
          simp only [Nat.sub_self, List.getElem_cons_zero]
          rw [hl]
          exact ⟨h2, h5⟩
    obtain ⟨l, hl, hli⟩ := build len (Nat.le_refl _)
    refine ⟨l, ⟨fl_len l, some a, cap, by rw [hl], by omega, ?_⟩, ?_, ?_⟩
    · by_cases hz : l.length = 0
      · exact .inl hz
      · right
        have hcell : ∀ i (hi : i < l.length) r, r < sz → W.cell? ((a.add (i * sz)).add r) = (enc l[i])[r]? := by
          intro i hi r hr
          obtain ⟨_, _, h6⟩ := World.cells?_some (hli i hi).1
          exact h6 r hr
        have hspot : a.spot = none := by
          have h7 := hcell 0 (by omega) 0 (by omega)
          rw [List.getElem?_eq_getElem (by rw [he.len]; omega)] at h7
          have := World.cell?_spot h7
          rwa [Nat.zero_mul, add_zero', add_zero'] at this
        obtain ⟨b, o, sp⟩ := a
        dsimp only at hspot
        subst hspot
        refine ⟨b, o, rfl, fun j u hj => ?_⟩
        have hfl := fl_len (enc := enc) l
        have hjl : j < l.length * sz := by
          obtain ⟨h8, _⟩ := List.getElem?_eq_some_iff.1 hj
          omega
        have hi : j / sz < l.length := (Nat.div_lt_iff_lt_mul (Nat.pos_of_ne_zero h0)).2 hjl
        have hr : j % sz < sz := Nat.mod_lt _ (Nat.pos_of_ne_zero h0)
        have h9 := hcell (j / sz) hi (j % sz) hr
        rw [Addr.add_lit, Addr.add_lit, Nat.add_assoc, Nat.div_add_mod' j sz] at h9
        have h10 : (chunk (fl enc l) sz (j / sz))[j % sz]? = some u := by
          unfold chunk
          rw [List.getElem?_take, if_pos hr, List.getElem?_drop, Nat.div_add_mod' j sz]
          exact hj
        rw [fl_chunk l (j / sz) hi] at h10
        rw [h10] at h9
        exact cell_hcell h9
    · intro y hy
      obtain ⟨i, hi, rfl⟩ := List.getElem_of_mem hy
      exact (hli i hi).2
    · have : maxLen = 9223372036854775807 := by decide
      omega
end
end Go.Sk
end

