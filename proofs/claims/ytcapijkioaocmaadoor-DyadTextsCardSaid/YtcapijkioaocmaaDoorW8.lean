/-
  skewer/skewerlaw19.DyadTexts returns true at every input, its arguments read afterwards as before. Conditions: the row's own, its listed variables tied to the program's text.
-/
import Derived.Test.YtcapijkioaocmaaDoorKe
import Derived.Test.YtcapijkioaocmaaDoorL8
set_option linter.unusedVariables false
set_option maxRecDepth 100000
namespace Go.Proofs.YtcapijkioaocmaaDoor.lawDyadTexts
open Go Go.Sk Go.RowKit Go.WideShapes Go.ChangeShapes Go.ChangeAt
open Go.ChangeMaps (open_string)
theorem calls {H : Type} {enc : TypeId × Value → H} {W : World} {base : Nat} {args : Array Value} {ds gs : List (DataW H)} {before : List MemPlace}
    (hval : ∀ (j : Nat) t v, Tryd.f8.params[j]? = some t → args[j]? = some v → Value.okWide Tryd.prog W .any base t v)
    (hW : DataW.Whole enc Tryd.prog Tryd.f8.params.toList Rows.dyadTextsSpec.vars false W args.toList ds gs before) (hL : laidMetH Tryd.prog Rows.dyadTextsRow.laid W) (hsh : W.ShapedOpen Tryd.prog) :
    Calls Tryd.prog 8 args W fun e W' => ∃ v, e = .returned v ∧ Rows.dyadTextsSpec.post enc Tryd.prog Tryd.f8 false true false false W args v W' := by
  have hW' := hW
  obtain ⟨p, q, hA0, hV, rfl, hfz, hnd⟩ := hW
  have hA : DataW.TrodAll enc Tryd.prog W 0 (fun _ => true) true Tryd.f8.params.toList args.toList ds p := hA0
  rw [Tryd.params8] at hA hval
  obtain ⟨v0, vs0, d0, ds0, p0, r0, hargs0, rfl, rfl, h0, hr0⟩ := trodAll_cons hA
  obtain ⟨v1, vs1, d1, ds1, p1, r1, hargs1, rfl, rfl, h1, hr1⟩ := trodAll_cons hr0
  subst hargs1
  obtain ⟨v2, vs2, d2, ds2, p2, r2, hargs2, rfl, rfl, h2, hr2⟩ := trodAll_cons hr1
  subst hargs2
  obtain ⟨rfl, rfl, rfl⟩ := trodAll_nil hr2
  obtain rfl : args = #[v0, v1, v2] := by cases args; simp_all
  obtain ⟨rfl, rfl⟩ := trodVars_none hV
  have hv0 := hval 0 23 v0 rfl rfl
  have hv1 := hval 1 23 v1 rfl rfl
  have hv2 := hval 2 9 v2 rfl rfl
  clear hA0 hval hargs0
  obtain ⟨a0, x0, b0, rfl, R0⟩ := raw_open hv0 h0
  obtain ⟨a1, x1, b1, rfl, R1⟩ := raw_open hv1 h1
  obtain ⟨s2, rfl, rfl, rfl, z2⟩ := open_string Tryd.underlying9 hv2 h2
  rw [str_eq s2] at *
  exact law_end laidOut (by kernel_rfl) Tryd.underlying4 (by kernel_rfl) rfl hW' rfl (texts_ok a0 x0 b0 a1 x1 b1 s2.data.toList _ (env_of hL hsh) R0 R1)
theorem reads (os : Os) {H : Type} (enc : TypeId × Value → H) : ∃ places, DataW.whole enc Tryd.prog ((World.doorLaid Tryd.prog 400 os).forCall (fun _ _ => 0) ⟨#[], #[.agg #[.int .i32 0, .int .u8 0, .int .u8 0], .agg #[.int .i32 0, .int .u8 0, .int .u8 0], .string .empty], []⟩).memory Tryd.f8.params.toList Rows.dyadTextsSpec.vars false (#[.agg #[.int .i32 0, .int .u8 0, .int .u8 0], .agg #[.int .i32 0, .int .u8 0, .int .u8 0], .string .empty] : Array Value).toList 8 = some ([.agg [.lit (.int .i32 0), .lit (.int .u8 0), .lit (.int .u8 0)], .agg [.lit (.int .i32 0), .lit (.int .u8 0), .lit (.int .u8 0)], .lit (.string [])], [], places) := ⟨[], by kernel_rfl⟩
theorem met (os : Os) : laidMetH Tryd.prog Rows.dyadTextsRow.laid ((World.doorLaid Tryd.prog 400 os).forCall (fun _ _ => 0) ⟨#[], #[.agg #[.int .i32 0, .int .u8 0, .int .u8 0], .agg #[.int .i32 0, .int .u8 0, .int .u8 0], .string .empty], []⟩).memory :=
  laidMetH_of_parts3 (fuel := 8) (laidMet_of_run' 8 (by kernel_rfl) (by kernel_rfl)) (by kernel_rfl) (by kernel_rfl)
theorem lifted (os : Os) (started : os.Started) (H : Type) (enc : TypeId × Value → H) (F : Stop.Interp) :
    ReturnsInHanded {} Tryd.checked os 8 .any ((OpenSpec.ofChange Rows.dyadTextsSpec).preRow enc Tryd.prog Tryd.f8 Rows.dyadTextsRow.domain false Rows.dyadTextsRow.laid) (((OpenSpec.ofChange Rows.dyadTextsSpec).at F).post enc Tryd.prog Tryd.f8 false true false false) := by
  obtain ⟨places, hx⟩ := reads os enc
  refine returnsInHanded_of_row (C := Tryd.checked) (s := OpenSpec.ofChange Rows.dyadTextsSpec) own started (by kernel_rfl) Tryd.func8
    (witness_row_atRef (enc := enc) (C := Tryd.checked) false (World.doorLaid Tryd.prog 400 os) #[.agg #[.int .i32 0, .int .u8 0, .int .u8 0], .agg #[.int .i32 0, .int .u8 0, .int .u8 0], .string .empty] rfl (by kernel_rfl) (by kernel_rfl) (by kernel_rfl)
      (OpenSpec.preRow_of_cond 8 hx (by kernel_rfl) (fun k hk => by cases hk) (by kernel_rfl) (met os))) ?_
  intro W base args ds gs before hval hW _ hcond _ hL hsh _
  exact calls hval hW hL hsh
theorem said : Rows.DyadTextsSaid :=
  OpenClaim.holds_of_cond 8 Tryd.f8 rfl rfl rfl rfl rfl rfl rfl ⟨rfl, rfl, rfl, rfl, rfl⟩ rfl rfl rfl rfl rfl (by kernel_rfl) Tryd.func8 (by kernel_rfl)
    (of_decide_eq_true (by kernel_rfl)) (by unfold Func.isWrapper; first | (rw [if_pos (by decide +kernel)]; kernel_rfl) | (rw [if_neg (by decide +kernel)]; exact ⟨rfl, rfl⟩))
    (fun os started H enc _ F => by rw [OpenClaim.pre_eq_preRow]; exact lifted os started H enc F)
theorem plain (f : FuncId) (fn : Func) (hf : Tryd.pinned.checked.prog.funcNamed "skewer/skewerlaw19.DyadTexts" = some f) (hfn : Tryd.pinned.checked.prog.funcs[f]? = some fn) :
    true = Tryd.pinned.checked.prog.looks [] ∧ ∀ (j : Nat) t, fn.params[j]? = some t → Tryd.pinned.checked.prog.wantsStandIn t = false := by
  obtain rfl : f = 8 := Option.some.inj ((show Tryd.prog.funcNamed "skewer/skewerlaw19.DyadTexts" = some 8 by kernel_rfl).symm.trans hf) |>.symm
  obtain rfl : fn = Tryd.f8 := (Option.some.inj (Tryd.func8.symm.trans hfn)).symm
  refine ⟨by kernel_rfl, fun j t ht => ?_⟩
  rw [Tryd.params8] at ht
  have hm : t ∈ [23, 23, 9] := by simpa using Array.mem_of_getElem? ht
  have hall : ([23, 23, 9].all fun u => !Tryd.prog.wantsStandIn u) = true := by kernel_rfl
  exact (show Tryd.prog.wantsStandIn t = false by simpa using List.all_eq_true.1 hall t hm)
theorem card : Rows.DyadTextsCardSaid :=
  Claim7.holds_tied_plain_at .later [] _ _ _ _ said (fun _ h => by cases h) (by kernel_rfl) (fun _ h => by cases h) dyadTexts_row_tie rfl ⟨rfl, rfl⟩ (by kernel_rfl) rfl plain (by kernel_rfl)

end Go.Proofs.YtcapijkioaocmaaDoor.lawDyadTexts
