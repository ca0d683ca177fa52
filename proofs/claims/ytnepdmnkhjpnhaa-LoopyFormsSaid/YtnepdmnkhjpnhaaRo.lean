/-
  Lemmas for the proof of the statement of this claim: a part of the road, no statement of its own. Conditions: those that each lemma names.
-/
import Derived.Test.YtnepdmnkhjpnhaaLf
import Derived.Test.YtnepdmnkhjpnhaaKr
import Derived.Test.YtnepdmnkhjpnhaaRows
set_option linter.unusedVariables false
set_option linter.unusedSimpArgs false
set_option linter.unusedSectionVars false
set_option maxRecDepth 100000
namespace Go.Proofs.Ytnepdmnkhjpnhaa
open Go Go.Sk Go.Lp Go.RowKit Go.WideShapes Go.ChangeShapes Go.ChangeAt
theorem okWide_arr {P : Program} {w : World} {r : Reach} {base : Nat} {t : TypeId} {n : Nat} {e : TypeId} {v : Value} (ht : P.underlying t = some (.array n e)) (h : Value.okWide P w r base t v) : ∃ cs, v = .agg cs ∧ cs.size = P.cellsOf t := by
  simp only [Value.okWide, ht] at h
  obtain ⟨cs, h1, h2, _⟩ := h
  exact ⟨cs, h1, h2⟩
theorem own : ownKnob Try.prog.godebug = none := by kernel_rfl
theorem laidOut : laidOutB Try.prog = true := by kernel_rfl
theorem u8_of {z : Int} (hw : (Lit.int .u8 z).wf = true) : ∃ b : UInt8, z = b.toNat := by
  have := bounds_u8 hw
  refine ⟨UInt8.ofNat z.toNat, ?_⟩
  rw [UInt8.toNat_ofNat']
  omega
section
variable {H : Type} {enc : TypeId × Value → H} {W : World} {base : Nat} {v : Value} {d : DataW H} {p : List MemPlace}
theorem arr_at {t m n : Nat} {cs : List Value} {x : DataW H × List MemPlace} (ht : Try.prog.underlying t = some (.array m 5)) (hc : Try.prog.cellsOf t = m) (h : DataW.trod enc Try.prog W 0 (fun _ => true) true n t cs = some x) : ∃ l : List UInt8, l.length = m ∧ cs = l.map fun b => Value.int .u8 b.toNat := by
  obtain ⟨zs, hz, hcs, hw⟩ := op_ints ht Try.underlying5 (by kernel_rfl) hc h
  refine ⟨zs.map fun z => UInt8.ofNat z.toNat, by rw [List.length_map]; exact hz, ?_⟩
  rw [hcs, List.map_map]
  refine List.map_congr_left fun z hz => ?_
  have := bounds_u8 (hw z hz)
  show Value.int .u8 z = Value.int .u8 ((UInt8.ofNat z.toNat).toNat : Nat)
  rw [UInt8.toNat_ofNat']
  congr 1
  omega
theorem pairs_open (hval : Value.okWide Try.prog W .any base 22 v) (h : DataW.Trod enc Try.prog W 0 (fun _ => true) true 22 v d p) : ∃ (q : SlH) (l : List (UInt8 × UInt8)), v = slv q ∧ RdE (World.hp W) (slv q) eB2 2 l ∧ l.length ≤ 9223372036854775807 := by
  obtain ⟨a, n, c, rfl⟩ := okWide_slice Try.underlying22 hval
  obtain ⟨fuel, hf⟩ := h
  obtain ⟨l, h1, h2, h3⟩ := op_slice (enc := eB2) (sz := 2) (Q := fun _ => True) Try.underlying22 (by kernel_rfl) (by decide) (fun n cs x h => by
    obtain ⟨l, hl, e⟩ := arr_at (m := 2) Try.underlying69 (by kernel_rfl) h
    match l, hl with
    | [a, b], _ => exact ⟨(a, b), e, trivial⟩) hf
  exact ⟨(a, n, c), l, rfl, h1, h3⟩
theorem three_open (hval : Value.okWide Try.prog W .any base 51 v) (h : DataW.Trod enc Try.prog W 0 (fun _ => true) true 51 v d p) : ∃ a b c : UInt8, v = .agg #[.int .u8 a.toNat, .int .u8 b.toNat, .int .u8 c.toNat] := by
  obtain ⟨cs, rfl, hsz⟩ := okWide_arr Try.underlying51 hval
  obtain ⟨fuel, hf⟩ := h
  obtain ⟨l⟩ := cs
  obtain ⟨zs, hz, hcs⟩ := arr_at (m := 3) Try.underlying51 (by kernel_rfl) hf
  match zs, hz with
  | [a, b, c], _ =>
    have : l = [.int .u8 a.toNat, .int .u8 b.toNat, .int .u8 c.toNat] := hcs
    subst this
    exact ⟨a, b, c, rfl⟩
end
end Go.Proofs.Ytnepdmnkhjpnhaa
