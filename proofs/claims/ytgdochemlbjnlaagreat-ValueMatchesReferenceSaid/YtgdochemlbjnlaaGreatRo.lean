/-
  Values: the opening of the laws' arguments.
-/
import Derived.Test.YtgdochemlbjnlaaGreatVy
import Derived.Test.YtgdochemlbjnlaaGreatKr
import Derived.Test.YtgdochemlbjnlaaGreatRows
set_option linter.unusedVariables false
set_option linter.unusedSimpArgs false
set_option linter.unusedSectionVars false
set_option maxRecDepth 100000
namespace Go.Proofs.YtgdochemlbjnlaaGreat
open Go Go.Sk Go.Va Go.RowKit Go.WideShapes Go.ChangeShapes Go.ChangeAt
theorem okWide_arr {P : Program} {w : World} {r : Reach} {base : Nat} {t : TypeId} {n : Nat} {e : TypeId} {v : Value} (ht : P.underlying t = some (.array n e)) (h : Value.okWide P w r base t v) : ∃ cs, v = .agg cs ∧ cs.size = P.cellsOf t := by
  simp only [Value.okWide, ht] at h
  obtain ⟨cs, h1, h2, _⟩ := h
  exact ⟨cs, h1, h2⟩
theorem own : ownKnob Tryz.prog.godebug = none := by kernel_rfl
theorem laidOut : laidOutB Tryz.prog = true := by kernel_rfl
theorem u8_of {z : Int} (hw : (Lit.int .u8 z).wf = true) : ∃ b : UInt8, z = b.toNat := by
  have := bounds_u8 hw
  refine ⟨UInt8.ofNat z.toNat, ?_⟩
  rw [UInt8.toNat_ofNat']
  omega
section
variable {H : Type} {enc : TypeId × Value → H} {W : World} {base : Nat} {v : Value} {d : DataW H} {p : List MemPlace}
theorem bytes_at {n : Nat} {x : DataW H × List MemPlace} (h : DataW.trod enc Tryz.prog W 0 (fun _ => true) true n 22 [v] = some x) : ∃ (q : SlH) (l : List UInt8), v = slv q ∧ RdE (World.hp W) (slv q) eByte 1 l ∧ l.length ≤ 9223372036854775807 := by
  obtain ⟨l, h1, _, h3⟩ := op_slice (enc := eByte) (sz := 1) (Q := fun _ => True) Tryz.underlying22 (by kernel_rfl) (by decide) (fun n cs x h => by
    obtain ⟨z, h1, h2⟩ := op_int Tryz.underlying5 h
    obtain ⟨b, rfl⟩ := u8_of h2
    exact ⟨b, h1, trivial⟩) h
  obtain ⟨q, rfl⟩ := h1.hdr
  exact ⟨q, l, rfl, h1, h3⟩
theorem bytes_open (hval : Value.okWide Tryz.prog W .any base 22 v) (h : DataW.Trod enc Tryz.prog W 0 (fun _ => true) true 22 v d p) : ∃ (q : SlH) (l : List UInt8), v = slv q ∧ RdE (World.hp W) (slv q) eByte 1 l ∧ l.length ≤ 9223372036854775807 := by
  obtain ⟨a, n, c, rfl⟩ := okWide_slice Tryz.underlying22 hval
  obtain ⟨fuel, hf⟩ := h
  exact bytes_at hf
theorem two_i8 (hval : Value.okWide Tryz.prog W .any base 24 v) (h : DataW.Trod enc Tryz.prog W 0 (fun _ => true) true 24 v d p) : ∃ a b : Int, v = .agg #[.int .i8 a, .int .i8 b] ∧ (-128 ≤ a ∧ a ≤ 127) ∧ (-128 ≤ b ∧ b ≤ 127) := by
  obtain ⟨cs, rfl, hsz⟩ := okWide_arr Tryz.underlying24 hval
  obtain ⟨fuel, hf⟩ := h
  obtain ⟨cl⟩ := cs
  obtain ⟨zs, h1, h2, h3⟩ := op_ints Tryz.underlying24 Tryz.underlying23 (by kernel_rfl) (by kernel_rfl) hf
  match zs, h1, h2, h3 with
  | [a, b], _, h2, h3 =>
    have : cl = [.int .i8 a, .int .i8 b] := h2
    subst this
    exact ⟨a, b, rfl, bounds_i8 (h3 a (by simp)), bounds_i8 (h3 b (by simp))⟩
end
end Go.Proofs.YtgdochemlbjnlaaGreat
