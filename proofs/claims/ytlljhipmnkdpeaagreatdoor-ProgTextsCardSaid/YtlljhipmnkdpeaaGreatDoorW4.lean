/-
  skewer/skewerlaw02.ProgTexts returns true at every input, its arguments read afterwards as before. Conditions: the row's own, its listed variables tied to the program's text.
-/
import Derived.Test.YtlljhipmnkdpeaaGreatDoorKe
import Derived.Lay
import Derived.Test.YtlljhipmnkdpeaaGreatDoorL4
import Derived.Test.YtlljhipmnkdpeaaGreatDoorR4
set_option linter.unusedVariables false
set_option maxRecDepth 100000
namespace Go.Proofs.YtlljhipmnkdpeaaGreatDoor.lawProgTexts
open Go Go.Sk Go.RowKit Go.WideShapes Go.ChangeShapes Go.ChangeAt
open Go.ChangeMaps (open_string)
theorem calls {H : Type} {enc : TypeId × Value → H} {W : World} {base : Nat} {args : Array Value} {ds gs : List (DataW H)} {before : List MemPlace}
    (hval : ∀ (j : Nat) t v, Tryz.f4.params[j]? = some t → args[j]? = some v → Value.okWide Tryz.prog W .any base t v)
    (hW : DataW.Whole enc Tryz.prog Tryz.f4.params.toList Rows.progTextsSpec.vars false W args.toList ds gs before) (hL : laidMetH Tryz.prog Rows.progTextsRow.laid W) (hsh : W.ShapedOpen Tryz.prog) :
    Calls Tryz.prog 4 args W fun e W' => ∃ v, e = .returned v ∧ Rows.progTextsSpec.post enc Tryz.prog Tryz.f4 false true false false W args v W' := by
  have hW' := hW
  obtain ⟨p, q, hA0, hV, rfl, hfz, hnd⟩ := hW
  have hA : DataW.TrodAll enc Tryz.prog W 0 (fun _ => true) true Tryz.f4.params.toList args.toList ds p := hA0
  rw [Tryz.params4] at hA hval
  obtain ⟨v0, vs0, d0, ds0, p0, r0, hargs0, rfl, rfl, h0, hr0⟩ := trodAll_cons hA
  obtain ⟨v1, vs1, d1, ds1, p1, r1, hargs1, rfl, rfl, h1, hr1⟩ := trodAll_cons hr0
  subst hargs1
  obtain ⟨rfl, rfl, rfl⟩ := trodAll_nil hr1
  obtain rfl : args = #[v0, v1] := by cases args; simp_all
  obtain ⟨rfl, rfl⟩ := trodVars_none hV
  have hv0 := hval 0 37 v0 rfl rfl
  have hv1 := hval 1 38 v1 rfl rfl
  clear hA0 hval hargs0
  obtain ⟨x, y, l, m, rfl, hl, hm⟩ := u8s2_open hv0 h0
  obtain ⟨raw, hr, hb, hrl⟩ := pairs_open hv1 h1
  exact law_end laidOut (by kernel_rfl) Tryz.underlying4 (by kernel_rfl) rfl hW' rfl (texts_ok l m raw x y _ _ (env_of hL hsh) hl hm hr hb hrl)
theorem reads (os : Os) {H : Type} (enc : TypeId × Value → H) : ∃ places, DataW.whole enc Tryz.prog ((World.laidAll Tryz.prog os lawLaid).forCall (fun _ _ => 0) ⟨#[], #[.agg #[.slice none 0 0, .slice none 0 0], .slice none 0 0], []⟩).memory Tryz.f4.params.toList Rows.progTextsSpec.vars false (#[.agg #[.slice none 0 0, .slice none 0 0], .slice none 0 0] : Array Value).toList 8 = some ([.agg [.nil, .nil], .nil], [], places) := ⟨[], by kernel_rfl⟩
theorem met (os : Os) : laidMetH Tryz.prog Rows.progTextsRow.laid ((World.laidAll Tryz.prog os lawLaid).forCall (fun _ _ => 0) ⟨#[], #[.agg #[.slice none 0 0, .slice none 0 0], .slice none 0 0], []⟩).memory := by
  rw [MakeChecks.laidMetH_plain _ _ _ (by kernel_rfl)]
  exact laidMet_laidAll _ (by kernel_rfl) (by kernel_rfl)
theorem lifted (os : Os) (started : os.Started) (H : Type) (enc : TypeId × Value → H) (F : Stop.Interp) :
    ReturnsInHanded {} Tryz.checked os 4 .any ((OpenSpec.ofChange Rows.progTextsSpec).preRow enc Tryz.prog Tryz.f4 Rows.progTextsRow.domain false Rows.progTextsRow.laid) (((OpenSpec.ofChange Rows.progTextsSpec).at F).post enc Tryz.prog Tryz.f4 false true false false) := by
  obtain ⟨places, hx⟩ := reads os enc
  refine returnsInHanded_of_row (C := Tryz.checked) (s := OpenSpec.ofChange Rows.progTextsSpec) own started (by kernel_rfl) Tryz.func4
    (witness_row_atRef (enc := enc) (C := Tryz.checked) false (World.laidAll Tryz.prog os lawLaid) #[.agg #[.slice none 0 0, .slice none 0 0], .slice none 0 0] (World.laidAll_os _ _ _) (by kernel_rfl) (by kernel_rfl) (by kernel_rfl)
      (OpenSpec.preRow_of_cond 8 hx (by kernel_rfl) (fun k hk => by cases hk) (by kernel_rfl) (met os))) ?_
  intro W base args ds gs before hval hW _ hcond _ hL hsh _
  exact calls hval hW hL hsh
theorem said : Rows.ProgTextsSaid :=
  OpenClaim.holds_of_cond 4 Tryz.f4 rfl rfl rfl rfl rfl rfl rfl ⟨rfl, rfl, rfl, rfl, rfl⟩ rfl rfl rfl rfl rfl (by kernel_rfl) Tryz.func4 (by kernel_rfl)
    (of_decide_eq_true (by kernel_rfl)) (by unfold Func.isWrapper; first | (rw [if_pos (by decide +kernel)]; kernel_rfl) | (rw [if_neg (by decide +kernel)]; exact ⟨rfl, rfl⟩))
    (fun os started H enc _ F => by rw [OpenClaim.pre_eq_preRow]; exact lifted os started H enc F)
theorem plain (f : FuncId) (fn : Func) (hf : Tryz.pinned.checked.prog.funcNamed "skewer/skewerlaw02.ProgTexts" = some f) (hfn : Tryz.pinned.checked.prog.funcs[f]? = some fn) :
    true = Tryz.pinned.checked.prog.looks [] ∧ ∀ (j : Nat) t, fn.params[j]? = some t → Tryz.pinned.checked.prog.wantsStandIn t = false := by
  obtain rfl : f = 4 := Option.some.inj ((show Tryz.prog.funcNamed "skewer/skewerlaw02.ProgTexts" = some 4 by kernel_rfl).symm.trans hf) |>.symm
  obtain rfl : fn = Tryz.f4 := (Option.some.inj (Tryz.func4.symm.trans hfn)).symm
  refine ⟨by kernel_rfl, fun j t ht => ?_⟩
  rw [Tryz.params4] at ht
  have hm : t ∈ [37, 38] := by simpa using Array.mem_of_getElem? ht
  have hall : ([37, 38].all fun u => !Tryz.prog.wantsStandIn u) = true := by kernel_rfl
  exact (show Tryz.prog.wantsStandIn t = false by simpa using List.all_eq_true.1 hall t hm)
theorem card : Rows.ProgTextsCardSaid :=
  Claim7.holds_tied_plain_at .later [] _ _ _ _ said (fun _ h => by cases h) (by kernel_rfl) (fun _ h => by cases h) progTexts_row_tie rfl ⟨rfl, rfl⟩ (by kernel_rfl) rfl plain (by kernel_rfl)

end Go.Proofs.YtlljhipmnkdpeaaGreatDoor.lawProgTexts
