/-
  Values: the opening of the laws' arguments.
-/
import Derived.Test.YtgdochemlbjnlaaVe
import Derived.Test.YtgdochemlbjnlaaKr
import Derived.Test.YtgdochemlbjnlaaRows
set_option linter.unusedVariables false
set_option linter.unusedSimpArgs false
set_option linter.unusedSectionVars false
set_option maxRecDepth 100000
namespace Go.Proofs.Ytgdochemlbjnlaa
open Go Go.Sk Go.Va Go.RowKit Go.WideShapes Go.ChangeShapes Go.ChangeAt
theorem okWide_arr {P : Program} {w : World} {r : Reach} {base : Nat} {t : TypeId} {n : Nat} {e : TypeId} {v : Value} (ht : P.underlying t = some (.array n e)) (h : Value.okWide P w r base t v) : ∃ cs, v = .agg cs ∧ cs.size = P.cellsOf t := by
  simp only [Value.okWide, ht] at h
  obtain ⟨cs, h1, h2, _⟩ := h
  exact ⟨cs, h1, h2⟩
theorem own : ownKnob Try.prog.godebug = none := by kernel_rfl
theorem laidOut : laidOutB Try.prog = true := by kernel_rfl
theorem u8_of {z : Int} (hw : (Lit.int .u8 z).wf = true) : ∃ b : UInt8, z = b.toNat := by
  have := bounds_u8 hw
  refine ⟨UInt8.ofNat z.toNat, ?_⟩
  rw [UInt8.toNat_ofNat']
  omega
section
variable {H : Type} {enc : TypeId × Value → H} {W : World} {base : Nat} {v : Value} {d : DataW H} {p : List MemPlace}
theorem bytes_at {n : Nat} {x : DataW H × List MemPlace} (h : DataW.trod enc Try.prog W 0 (fun _ => true) true n 22 [v] = some x) : ∃ (q : SlH) (l : List UInt8), v = slv q ∧ RdE (World.hp W) (slv q) eByte 1 l ∧ l.length ≤ 9223372036854775807 := by
  obtain ⟨l, h1, _, h3⟩ := op_slice (enc := eByte) (sz := 1) (Q := fun _ => True) Try.underlying22 (by kernel_rfl) (by decide) (fun n cs x h => by
    obtain ⟨z, h1, h2⟩ := op_int Try.underlying5 h
    obtain ⟨b, rfl⟩ := u8_of h2
    exact ⟨b, h1, trivial⟩) h
  obtain ⟨q, rfl⟩ := h1.hdr
  exact ⟨q, l, rfl, h1, h3⟩
theorem bytes_open (hval : Value.okWide Try.prog W .any base 22 v) (h : DataW.Trod enc Try.prog W 0 (fun _ => true) true 22 v d p) : ∃ (q : SlH) (l : List UInt8), v = slv q ∧ RdE (World.hp W) (slv q) eByte 1 l ∧ l.length ≤ 9223372036854775807 := by
  obtain ⟨a, n, c, rfl⟩ := okWide_slice Try.underlying22 hval
  obtain ⟨fuel, hf⟩ := h
  exact bytes_at hf
theorem three_open (hval : Value.okWide Try.prog W .any base 23 v) (h : DataW.Trod enc Try.prog W 0 (fun _ => true) true 23 v d p) : ∃ (q0 q1 q2 : SlH) (l0 l1 l2 : List UInt8), v = .agg #[slv q0, slv q1, slv q2] ∧ RdE (World.hp W) (slv q0) eByte 1 l0 ∧ RdE (World.hp W) (slv q1) eByte 1 l1 ∧ RdE (World.hp W) (slv q2) eByte 1 l2 ∧ l0.length ≤ 9223372036854775807 ∧ l1.length ≤ 9223372036854775807 ∧ l2.length ≤ 9223372036854775807 := by
  obtain ⟨cs, rfl, hsz⟩ := okWide_arr Try.underlying23 hval
  obtain ⟨fuel, hf⟩ := h
  obtain ⟨cl⟩ := cs
  obtain ⟨xs, m', _, _, hl, hxl, hx⟩ := DataW.trod_array Try.underlying23 hf
  have hc : Try.prog.cellsOf 22 = 1 := by kernel_rfl
  rw [show Try.prog.cellsOf 23 = 3 by kernel_rfl] at hl
  match cl, hl with
  | [c0, c1, c2], _ =>
  have g0 := hx 0 (by decide)
  have g1 := hx 1 (by decide)
  have g2 := hx 2 (by decide)
  rw [hc, List.getElem?_eq_getElem (by omega)] at g0 g1 g2
  obtain ⟨q0, l0, e0, r0, n0⟩ := bytes_at (show DataW.trod enc Try.prog W 0 (fun _ => true) true m' 22 [c0] = some xs[0] from g0)
  obtain ⟨q1, l1, e1, r1, n1⟩ := bytes_at (show DataW.trod enc Try.prog W 0 (fun _ => true) true m' 22 [c1] = some xs[1] from g1)
  obtain ⟨q2, l2, e2, r2, n2⟩ := bytes_at (show DataW.trod enc Try.prog W 0 (fun _ => true) true m' 22 [c2] = some xs[2] from g2)
  subst e0 e1 e2
  exact ⟨q0, q1, q2, l0, l1, l2, rfl, r0, r1, r2, n0, n1, n2⟩
theorem two_i8 (hval : Value.okWide Try.prog W .any base 37 v) (h : DataW.Trod enc Try.prog W 0 (fun _ => true) true 37 v d p) : ∃ a b : Int, v = .agg #[.int .i8 a, .int .i8 b] ∧ (-128 ≤ a ∧ a ≤ 127) ∧ (-128 ≤ b ∧ b ≤ 127) := by
  obtain ⟨cs, rfl, hsz⟩ := okWide_arr Try.underlying37 hval
  obtain ⟨fuel, hf⟩ := h
  obtain ⟨cl⟩ := cs
  obtain ⟨zs, h1, h2, h3⟩ := op_ints Try.underlying37 Try.underlying36 (by kernel_rfl) (by kernel_rfl) hf
  match zs, h1, h2, h3 with
  | [a, b], _, h2, h3 =>
    have : cl = [.int .i8 a, .int .i8 b] := h2
    subst this
    exact ⟨a, b, rfl, bounds_i8 (h3 a (by simp)), bounds_i8 (h3 b (by simp))⟩
theorem two_u8 (hval : Value.okWide Try.prog W .any base 38 v) (h : DataW.Trod enc Try.prog W 0 (fun _ => true) true 38 v d p) : ∃ a b : UInt8, v = .agg #[.int .u8 a.toNat, .int .u8 b.toNat] := by
  obtain ⟨cs, rfl, hsz⟩ := okWide_arr Try.underlying38 hval
  obtain ⟨fuel, hf⟩ := h
  obtain ⟨cl⟩ := cs
  obtain ⟨zs, h1, h2, h3⟩ := op_ints Try.underlying38 Try.underlying5 (by kernel_rfl) (by kernel_rfl) hf
  match zs, h1, h2, h3 with
  | [a, b], _, h2, h3 =>
    have : cl = [.int .u8 a, .int .u8 b] := h2
    subst this
    obtain ⟨x, rfl⟩ := u8_of (h3 a (by simp))
    obtain ⟨y, rfl⟩ := u8_of (h3 b (by simp))
    exact ⟨x, y, rfl⟩
end
end Go.Proofs.Ytgdochemlbjnlaa
