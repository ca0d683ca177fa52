/-
  skewer/skewerlaw20.ValueMatchesReference returns true at every input, its arguments read afterwards as before. Conditions: the row's own.
-/
import Derived.Test.YtgdochemlbjnlaaGreatRo
import Derived.Lay
import Derived.Test.YtgdochemlbjnlaaGreatVy
set_option linter.unusedVariables false
set_option maxRecDepth 100000
namespace Go.Proofs.YtgdochemlbjnlaaGreat.lawValueMatchesReference
open Go Go.Sk Go.RowKit Go.WideShapes Go.ChangeShapes Go.ChangeAt
open Go.ChangeMaps (open_string)
theorem calls {H : Type} {enc : TypeId × Value → H} {W : World} {base : Nat} {args : Array Value} {ds gs : List (DataW H)} {before : List MemPlace}
    (hval : ∀ (j : Nat) t v, Tryz.f3.params[j]? = some t → args[j]? = some v → Value.okWide Tryz.prog W .any base t v)
    (hW : DataW.Whole enc Tryz.prog Tryz.f3.params.toList Rows.valueMatchesReferenceSpec.vars false W args.toList ds gs before) (hsh : W.ShapedOpen Tryz.prog) :
    Calls Tryz.prog 3 args W fun e W' => ∃ v, e = .returned v ∧ Rows.valueMatchesReferenceSpec.post enc Tryz.prog Tryz.f3 false true false false W args v W' := by
  have hW' := hW
  obtain ⟨p, q, hA0, hV, rfl, hfz, hnd⟩ := hW
  have hA : DataW.TrodAll enc Tryz.prog W 0 (fun _ => true) true Tryz.f3.params.toList args.toList ds p := hA0
  rw [Tryz.params3] at hA hval
  obtain ⟨v0, vs0, d0, ds0, p0, r0, hargs0, rfl, rfl, h0, hr0⟩ := trodAll_cons hA
  obtain ⟨v1, vs1, d1, ds1, p1, r1, hargs1, rfl, rfl, h1, hr1⟩ := trodAll_cons hr0
  subst hargs1
  obtain ⟨v2, vs2, d2, ds2, p2, r2, hargs2, rfl, rfl, h2, hr2⟩ := trodAll_cons hr1
  subst hargs2
  obtain ⟨rfl, rfl, rfl⟩ := trodAll_nil hr2
  obtain rfl : args = #[v0, v1, v2] := by cases args; simp_all
  obtain ⟨rfl, rfl⟩ := trodVars_none hV
  have hv0 := hval 0 22 v0 rfl rfl
  have hv1 := hval 1 22 v1 rfl rfl
  have hv2 := hval 2 24 v2 rfl rfl
  clear hA0 hval hargs0
  obtain ⟨q0, l0, rfl, hr0', hn0⟩ := bytes_open hv0 h0
  obtain ⟨q1, l1, rfl, hr1', hn1⟩ := bytes_open hv1 h1
  obtain ⟨a2, b2, rfl, ha2, hb2⟩ := two_i8 hv2 h2
  exact law_end laidOut (by kernel_rfl) Tryz.underlying4 (by kernel_rfl) rfl hW' rfl (matches_ok (M := Go.Sk.Mode.off) q0 q1 l0 l1 a2 b2 _ hr0' hr1' hn0 hn1 ha2 hb2)
theorem reads (os : Os) {H : Type} (enc : TypeId × Value → H) : ∃ places, DataW.whole enc Tryz.prog ((World.holding Tryz.prog os ⟨#[], #[], []⟩).forCall (fun _ _ => 0) ⟨#[], #[.slice none 0 0, .slice none 0 0, .agg #[.int .i8 0, .int .i8 0]], []⟩).memory Tryz.f3.params.toList Rows.valueMatchesReferenceSpec.vars false (#[.slice none 0 0, .slice none 0 0, .agg #[.int .i8 0, .int .i8 0]] : Array Value).toList 8 = some ([.nil, .nil, .agg [.lit (.int .i8 0), .lit (.int .i8 0)]], [], places) := ⟨[], by kernel_rfl⟩
theorem lifted (os : Os) (started : os.Started) (H : Type) (enc : TypeId × Value → H) (F : Stop.Interp) :
    ReturnsInHanded {} Tryz.checked os 3 .any ((OpenSpec.ofChange Rows.valueMatchesReferenceSpec).preRow enc Tryz.prog Tryz.f3 Rows.valueMatchesReferenceRow.domain false Rows.valueMatchesReferenceRow.laid) (((OpenSpec.ofChange Rows.valueMatchesReferenceSpec).at F).post enc Tryz.prog Tryz.f3 false true false false) := by
  obtain ⟨places, hx⟩ := reads os enc
  refine returnsInHanded_of_row (C := Tryz.checked) (s := OpenSpec.ofChange Rows.valueMatchesReferenceSpec) own started (by kernel_rfl) Tryz.func3
    (witness_row_atRef (enc := enc) (C := Tryz.checked) false (World.holding Tryz.prog os ⟨#[], #[], []⟩) #[.slice none 0 0, .slice none 0 0, .agg #[.int .i8 0, .int .i8 0]] rfl (by kernel_rfl) (by kernel_rfl) (by kernel_rfl)
      (OpenSpec.preRow_of_cond 8 hx (by kernel_rfl) (fun k hk => by cases hk) (by kernel_rfl) ⟨[], rfl, List.nodup_nil, fun _ _ h => by cases h⟩)) ?_
  intro W base args ds gs before hval hW _ hcond _ hL hsh _
  exact calls hval hW hsh
theorem said : Rows.ValueMatchesReferenceSaid :=
  OpenClaim.holds_of_cond 3 Tryz.f3 rfl rfl rfl rfl rfl rfl rfl ⟨rfl, rfl, rfl, rfl, rfl⟩ rfl rfl rfl rfl rfl (by kernel_rfl) Tryz.func3 (by kernel_rfl)
    (of_decide_eq_true (by kernel_rfl)) (by unfold Func.isWrapper; first | (rw [if_pos (by decide +kernel)]; kernel_rfl) | (rw [if_neg (by decide +kernel)]; exact ⟨rfl, rfl⟩))
    (fun os started H enc _ F => by rw [OpenClaim.pre_eq_preRow]; exact lifted os started H enc F)

end Go.Proofs.YtgdochemlbjnlaaGreat.lawValueMatchesReference
