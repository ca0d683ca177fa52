/-
  skewer/skewerlaw20.ValueNumbers returns true at every input, its arguments read afterwards as before. Conditions: the row's own.
-/
import Derived.Test.YtgdochemlbjnlaaRo
import Derived.Lay
import Derived.Test.YtgdochemlbjnlaaVi
set_option linter.unusedVariables false
set_option maxRecDepth 100000
namespace Go.Proofs.Ytgdochemlbjnlaa.lawValueNumbers
open Go Go.Sk Go.RowKit Go.WideShapes Go.ChangeShapes Go.ChangeAt
open Go.ChangeMaps (open_string)
theorem calls {H : Type} {enc : TypeId × Value → H} {W : World} {base : Nat} {args : Array Value} {ds gs : List (DataW H)} {before : List MemPlace}
    (hval : ∀ (j : Nat) t v, Try.f6.params[j]? = some t → args[j]? = some v → Value.okWide Try.prog W .any base t v)
    (hW : DataW.Whole enc Try.prog Try.f6.params.toList Rows.valueNumbersSpec.vars false W args.toList ds gs before) (hsh : W.ShapedOpen Try.prog) :
    Calls Try.prog 6 args W fun e W' => ∃ v, e = .returned v ∧ Rows.valueNumbersSpec.post enc Try.prog Try.f6 false true false false W args v W' := by
  have hW' := hW
  obtain ⟨p, q, hA0, hV, rfl, hfz, hnd⟩ := hW
  have hA : DataW.TrodAll enc Try.prog W 0 (fun _ => true) true Try.f6.params.toList args.toList ds p := hA0
  rw [Try.params6] at hA hval
  obtain ⟨v0, vs0, d0, ds0, p0, r0, hargs0, rfl, rfl, h0, hr0⟩ := trodAll_cons hA
  obtain ⟨v1, vs1, d1, ds1, p1, r1, hargs1, rfl, rfl, h1, hr1⟩ := trodAll_cons hr0
  subst hargs1
  obtain ⟨rfl, rfl, rfl⟩ := trodAll_nil hr1
  obtain rfl : args = #[v0, v1] := by cases args; simp_all
  obtain ⟨rfl, rfl⟩ := trodVars_none hV
  have hv0 := hval 0 37 v0 rfl rfl
  have hv1 := hval 1 38 v1 rfl rfl
  clear hA0 hval hargs0
  obtain ⟨a0, b0, rfl, ha0, hb0⟩ := two_i8 hv0 h0
  obtain ⟨a1, b1, rfl⟩ := two_u8 hv1 h1
  exact law_end laidOut (by kernel_rfl) Try.underlying4 (by kernel_rfl) rfl hW' rfl (numbers_ok (M := Go.Sk.Mode.off) a0 b0 a1 b1 _ ha0 hb0)
theorem reads (os : Os) {H : Type} (enc : TypeId × Value → H) : ∃ places, DataW.whole enc Try.prog ((World.holding Try.prog os ⟨#[], #[], []⟩).forCall (fun _ _ => 0) ⟨#[], #[.agg #[.int .i8 0, .int .i8 0], .agg #[.int .u8 0, .int .u8 0]], []⟩).memory Try.f6.params.toList Rows.valueNumbersSpec.vars false (#[.agg #[.int .i8 0, .int .i8 0], .agg #[.int .u8 0, .int .u8 0]] : Array Value).toList 8 = some ([.agg [.lit (.int .i8 0), .lit (.int .i8 0)], .agg [.lit (.int .u8 0), .lit (.int .u8 0)]], [], places) := ⟨[], by kernel_rfl⟩
theorem lifted (os : Os) (started : os.Started) (H : Type) (enc : TypeId × Value → H) (F : Stop.Interp) :
    ReturnsInHanded {} Try.checked os 6 .any ((OpenSpec.ofChange Rows.valueNumbersSpec).preRow enc Try.prog Try.f6 Rows.valueNumbersRow.domain false Rows.valueNumbersRow.laid) (((OpenSpec.ofChange Rows.valueNumbersSpec).at F).post enc Try.prog Try.f6 false true false false) := by
  obtain ⟨places, hx⟩ := reads os enc
  refine returnsInHanded_of_row (C := Try.checked) (s := OpenSpec.ofChange Rows.valueNumbersSpec) own started (by kernel_rfl) Try.func6
    (witness_row_atRef (enc := enc) (C := Try.checked) false (World.holding Try.prog os ⟨#[], #[], []⟩) #[.agg #[.int .i8 0, .int .i8 0], .agg #[.int .u8 0, .int .u8 0]] rfl (by kernel_rfl) (by kernel_rfl) (by kernel_rfl)
      (OpenSpec.preRow_of_cond 8 hx (by kernel_rfl) (fun k hk => by cases hk) (by kernel_rfl) ⟨[], rfl, List.nodup_nil, fun _ _ h => by cases h⟩)) ?_
  intro W base args ds gs before hval hW _ hcond _ hL hsh _
  exact calls hval hW hsh
theorem said : Rows.ValueNumbersSaid :=
  OpenClaim.holds_of_cond 6 Try.f6 rfl rfl rfl rfl rfl rfl rfl ⟨rfl, rfl, rfl, rfl, rfl⟩ rfl rfl rfl rfl rfl (by kernel_rfl) Try.func6 (by kernel_rfl)
    (of_decide_eq_true (by kernel_rfl)) (by unfold Func.isWrapper; first | (rw [if_pos (by decide +kernel)]; kernel_rfl) | (rw [if_neg (by decide +kernel)]; exact ⟨rfl, rfl⟩))
    (fun os started H enc _ F => by rw [OpenClaim.pre_eq_preRow]; exact lifted os started H enc F)

end Go.Proofs.Ytgdochemlbjnlaa.lawValueNumbers
