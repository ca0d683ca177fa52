/-
  Lemmas for the proof of the statement of this claim: a part of the road, no statement of its own. Conditions: those that each lemma names.
-/
import Derived.Test.YtlljhipmnkdpeaaGreatDoorKe
import Derived.Test.YtlljhipmnkdpeaaGreatDoorL4
set_option linter.unusedVariables false
set_option maxRecDepth 100000
namespace Go.Proofs.YtlljhipmnkdpeaaGreatDoor
open Go Go.Sk Go.Pr Go.RowKit Go.WideShapes Go.ChangeShapes Go.ChangeAt
theorem pairs_open {H : Type} {enc : TypeId × Value → H} {W : World} {base : Nat} {v : Value} {d : DataW H} {p : List MemPlace} (hval : Value.okWide Tryz.prog W .any base 38 v) (h : DataW.Trod enc Tryz.prog W 0 (fun _ => true) true 38 v d p) : ∃ l : List (Int × Int), RdE (World.hp W) v eP8 2 l ∧ (∀ q ∈ l, 0 ≤ q.1 ∧ q.1 ≤ 255) ∧ l.length ≤ 9223372036854775807 := by
  obtain ⟨a, n, c, rfl⟩ := okWide_slice Tryz.underlying38 hval
  obtain ⟨fuel, hf⟩ := h
  exact op_slice (enc := eP8) (sz := 2) (Q := fun q => 0 ≤ q.1 ∧ q.1 ≤ 255) Tryz.underlying38 (by kernel_rfl) (by decide) (fun n cs x h => by
    obtain ⟨zs, hz, hcs, hw⟩ := op_ints Tryz.underlying42 Tryz.underlying5 (by kernel_rfl) (by kernel_rfl) h
    match zs, hz with
    | [a, b], _ => exact ⟨(a, b), hcs, bounds_u8 (hw a (by simp))⟩) hf
end Go.Proofs.YtlljhipmnkdpeaaGreatDoor
