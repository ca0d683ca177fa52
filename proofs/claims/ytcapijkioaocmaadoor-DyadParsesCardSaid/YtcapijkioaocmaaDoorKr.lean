/-
  From a function's contract to a law's row: what was read before the call reads as before.
-/
import Derived.Test.YtcapijkioaocmaaDoorKb
import Derived.Below
import Derived.ChangeSame
import Derived.ProofKit
import Derived.OpenShut
import Derived.Deep.DeepHandedRow
import Derived.Deep.DeepWitnessRowRef
import Derived.Lib.LaidTab
import Derived.Lib.SmallJoins
import Derived.Stop.LaidErr
import Derived.LaidMore
import Derived.WideKeyArgs
import Derived.SevenTiedAt
set_option linter.unusedVariables false
namespace Go.Sk
open Go Go.RowKit Go.WideShapes Go.ChangeShapes Go.ChangeAt
section
variable {H : Type} {enc : TypeId × Value → H} {P : Program}
def rdAll (P : Program) (ts : List TypeId) : Bool := ts.all fun t => P.readableRec t && decide (t < P.types.size)
theorem trodAll_stays (hl : laidOutB P = true) {W W' : World} {sp : Nat → Bool} : ∀ (ts : List TypeId) (vs : List Value) (ds : List (DataW H)) (ps : List MemPlace), rdAll P ts = true → DataW.TrodAll enc P W 0 (fun _ => true) true ts vs ds ps →
    (∀ p ∈ ps, W.sameAt W' p) → (∀ p ∈ ps, sp p.block = true) → DataW.TrodAll enc P W' 0 sp true ts vs ds ps
  | [], vs, ds, ps, _, h, _, _ => by
    obtain ⟨rfl, rfl, rfl⟩ := trodAll_nil h
    exact trodAll_mk0
  | t :: ts, vs, ds, ps, hr, h, hs, hsp => by
    obtain ⟨v, vs', d, ds', p, q, rfl, rfl, rfl, h1, h2⟩ := trodAll_cons h
    unfold rdAll at hr
    rw [List.all_cons, Bool.and_eq_true, Bool.and_eq_true] at hr
    exact trodAll_cons_mk (WideElems.Trod_stays hl hr.1.1 (of_decide_eq_true hr.1.2) h1 (fun x hx => hs x (List.mem_append_left _ hx)) (fun x hx => hsp x (List.mem_append_left _ hx)))
      (trodAll_stays hl ts vs' ds' q hr.2 h2 (fun x hx => hs x (List.mem_append_right _ hx)) (fun x hx => hsp x (List.mem_append_right _ hx)))
theorem post_below {f : Func} {s : ChangeSpec} {apart fresh handsOn again : Bool} {W W' : World} {args : Array Value} {v : Value} {ds gs : List (DataW H)} {before pa pv : List MemPlace}
    (hW : DataW.Whole enc P f.params.toList s.vars apart W args.toList ds gs before)
    (hres : ∀ (b : Nat) (sp : Nat → Bool) (hd : Bool), DataW.TrodAll enc P W' b sp hd f.resultTypes.toList (v.resultList f.resultTypes.size) (s.fn H (ds ++ gs)).results [])
    (hargs : ∀ sp : Nat → Bool, (∀ p ∈ before, sp p.block = true) → DataW.TrodAll enc P W' 0 sp true f.params.toList args.toList (s.fn H (ds ++ gs)).args pa)
    (hvars : ∀ sp : Nat → Bool, (∀ p ∈ before, sp p.block = true) → DataW.TrodVars enc P W' sp s.vars (s.fn H (ds ++ gs)).vars pv)
    (hps : before = pa ++ pv) (hb : Below W.heap.size W W')
    (hok : ∀ (j : Nat) (t : TypeId) (r : Value), f.resultTypes[j]? = some t → (v.resultList f.resultTypes.size)[j]? = some r → Value.okWide P W' .any 0 t r) :
    s.post enc P f apart fresh handsOn again W args v W' := by
  have hlt : ∀ p ∈ before, p.block < W.heap.size := fun p hp => hW.lt p hp
  have hold : ∀ p ∈ before, (fun b => decide (b < W.heap.size)) p.block = true := fun p hp => by simpa using hlt p hp
  refine ⟨ds, gs, before, [], pa, pv, hW, hres _ _ _, hargs _ hold, hvars _ hold, World.keptBut_mono (fun p hp => ⟨hp, ?_⟩) (hb.frame (· ∈ before)), fun _ => ?_⟩
  · rw [hps, List.mem_append] at hp
    exact Or.inr hp
  · obtain ⟨_, _, _, _, _, hz, hn⟩ := hW
    refine ⟨hok, _, _, ([] ++ pa) ++ pv, ⟨[] ++ pa, pv, trodAll_append (hargs _ (fun _ _ => rfl)) (hres _ _ _), hvars _ (fun _ _ => rfl), rfl, ?_, ?_⟩, ?_⟩
    · intro b off hp
      have hin : MemPlace.cell b off ∈ before := by rw [hps]; simpa using hp
      rw [hb.frozen (hlt _ hin)]
      exact hz b off hin
    · intro ha
      have := hn ha
      rw [hps] at this
      simpa using this
    · intro p hp _
      rw [hps]
      simpa using hp
/-- A law's post: true, and all reads as before. -/
theorem law_post {f : Func} {s : ChangeSpec} {apart fresh handsOn again : Bool} {W W' : World} {args : Array Value} {ds gs : List (DataW H)} {before : List MemPlace} {tb : TypeId}
    (hl : laidOutB P = true) (hr : rdAll P f.params.toList = true) (hu : P.underlying tb = some .bool) (hrt : f.resultTypes = #[tb]) (hv : s.vars = [])
    (hW : DataW.Whole enc P f.params.toList s.vars apart W args.toList ds gs before) (hs : s.fn H (ds ++ gs) = { results := [.lit (.bool true)], args := ds }) (hb : Below W.heap.size W W') :
    s.post enc P f apart fresh handsOn again W args (.bool true) W' := by
  have hlt : ∀ p ∈ before, p.block < W.heap.size := fun p hp => hW.lt p hp
  have hW' := hW
  obtain ⟨p, q, hA, hV, hbf, hfz, hnd⟩ := hW'
  rw [hv] at hV
  obtain ⟨rfl, rfl⟩ := trodVars_none hV
  rw [List.append_nil] at hbf
  refine post_below (pa := p) (pv := []) hW ?_ ?_ ?_ (by rw [hbf]; simp) hb ?_
  · intro b sp hd
    rw [hs, hrt]
    exact trodAll_mk1 (shut_bool hu true)
  · intro sp hsp
    rw [hs]
    refine trodAll_stays hl _ _ _ _ hr hA (fun x hx => hb.same (hlt x (by rw [hbf]; exact hx))) (fun x hx => hsp x (by rw [hbf]; exact hx))
  · intro sp hsp
    rw [hs, hv]
    rfl
  · exact ok_one hrt rfl (okWide_bool_mk hu true)
theorem law_calls {f : FuncId} {args : List Value} {W : World} (hc : Ct P f args (World.hp W) (fun _ v => v = .bool true)) : Calls P f ⟨args⟩ W fun e W' => e = .returned (.bool true) ∧ Below W.heap.size W W' :=
  Calls.mono (hc W (Hle.refl _)) fun e w' he => by
    cases e with
    | panicked c => exact he.elim
    | outgrown => exact he.elim
    | returned v =>
      obtain ⟨h1, h', h2, h3, h4, h5⟩ := he
      exact ⟨by rw [h5], h1⟩
theorem law_end {f : Func} {fid : FuncId} {s : ChangeSpec} {apart fresh handsOn again : Bool} {W : World} {args : List Value} {ds gs : List (DataW H)} {before : List MemPlace} {tb : TypeId}
    (hl : laidOutB P = true) (hr : rdAll P f.params.toList = true) (hu : P.underlying tb = some .bool) (hrt : f.resultTypes = #[tb]) (hv : s.vars = [])
    (hW : DataW.Whole enc P f.params.toList s.vars apart W args ds gs before) (hs : s.fn H (ds ++ gs) = { results := [.lit (.bool true)], args := ds })
    (hc : Ct P fid args (World.hp W) (fun _ v => v = .bool true)) :
    Calls P fid ⟨args⟩ W fun e W' => ∃ v, e = .returned v ∧ s.post enc P f apart fresh handsOn again W ⟨args⟩ v W' :=
  Calls.mono (law_calls hc) fun e w' he => ⟨_, he.1, law_post hl hr hu hrt hv hW hs he.2⟩
end
theorem str_eq (s : ByteArray) : Value.string s = Value.string ⟨s.data.toList.toArray⟩ := by
  obtain ⟨⟨l⟩⟩ := s
  rfl
theorem str_len (s : ByteArray) : s.data.toList.length = s.size := by rw [Array.length_toList]; rfl
theorem hp_cell {W w : World} (h : Hle (World.hp W) (World.hp w)) {b : Nat} {o : Obj} (e : W.heap[b]? = some o) : w.heap[b]? = some o := h b o e
theorem hp_cell' {W w : World} (h : Hle (World.hp W) (World.hp w)) {a : Addr} {v : Value} (e : W.cell? a = some v) : w.cell? a = some v := by
  obtain ⟨b, o, sp⟩ := a
  unfold World.cell? at *
  cases hb : W.heap[b]? with
  | none => simp [hb] at e
  | some x =>
    have := h b x hb
    unfold World.hp at this
    rw [this]
    rw [hb] at e
    exact e
end Go.Sk
namespace Go.Sk
open Go Go.RowKit Go.WideShapes Go.ChangeShapes Go.ChangeAt
theorem var_mono {P : Program} {W w : World} {n : String} {cs : Array Value} (h : Hle (World.hp W) (World.hp w)) (e : W.var? P n = some cs) : w.var? P n = some cs := by
  unfold World.var? at *
  cases hg : P.globalNamed n with
  | none => rw [hg] at e; cases e
  | some g =>
    rw [hg] at e
    simp only [Option.bind_some] at *
    cases hb : W.heap[g]? with
    | none => rw [hb] at e; cases e
    | some x =>
      have := h g x hb
      unfold World.hp at this
      rw [this]
      rw [hb] at e
      exact e
theorem cell_hcell {W : World} {b o : Nat} {v : Value} (e : W.cell? ⟨b, o, none⟩ = some v) : hcell (World.hp W) b o = some v := by
  unfold hcell World.hp
  unfold World.cell? at e
  cases hb : W.heap[b]? with
  | none => simp [hb] at e
  | some x => cases x <;> simp [hb] at e ⊢ <;> exact e
end Go.Sk
