/-
  Lemmas for the proof of the statement of this claim: a part of the road, no statement of its own. Conditions: those that each lemma names.
-/
import Derived.Test.YtnepdmnkhjpnhaaLi
import Derived.Test.YtnepdmnkhjpnhaaKr
import Derived.Test.YtnepdmnkhjpnhaaRows
set_option linter.unusedVariables false
set_option linter.unusedSimpArgs false
set_option linter.unusedSectionVars false
set_option maxRecDepth 100000
namespace Go.Proofs.Ytnepdmnkhjpnhaa
open Go Go.Sk Go.Lp Go.RowKit Go.WideShapes Go.ChangeShapes Go.ChangeAt
theorem okWide_arr {P : Program} {w : World} {r : Reach} {base : Nat} {t : TypeId} {n : Nat} {e : TypeId} {v : Value} (ht : P.underlying t = some (.array n e)) (h : Value.okWide P w r base t v) : ∃ cs, v = .agg cs ∧ cs.size = P.cellsOf t := by
  simp only [Value.okWide, ht] at h
  obtain ⟨cs, h1, h2, _⟩ := h
  exact ⟨cs, h1, h2⟩
theorem own : ownKnob Try.prog.godebug = none := by kernel_rfl
theorem laidOut : laidOutB Try.prog = true := by kernel_rfl
theorem u8_of {z : Int} (hw : (Lit.int .u8 z).wf = true) : ∃ b : UInt8, z = b.toNat := by
  have := bounds_u8 hw
  refine ⟨UInt8.ofNat z.toNat, ?_⟩
  rw [UInt8.toNat_ofNat']
  omega
section
variable {H : Type} {enc : TypeId × Value → H} {W : World} {base : Nat} {v : Value} {d : DataW H} {p : List MemPlace}
theorem arr_at {t m n : Nat} {cs : List Value} {x : DataW H × List MemPlace} (ht : Try.prog.underlying t = some (.array m 5)) (hc : Try.prog.cellsOf t = m) (h : DataW.trod enc Try.prog W 0 (fun _ => true) true n t cs = some x) : ∃ l : List UInt8, l.length = m ∧ cs = l.map fun b => Value.int .u8 b.toNat := by
  obtain ⟨zs, hz, hcs, hw⟩ := op_ints ht Try.underlying5 (by kernel_rfl) hc h
  refine ⟨zs.map fun z => UInt8.ofNat z.toNat, by rw [List.length_map]; exact hz, ?_⟩
  rw [hcs, List.map_map]
  refine List.map_congr_left fun z hz => ?_
  have := bounds_u8 (hw z hz)
  show Value.int .u8 z = Value.int .u8 ((UInt8.ofNat z.toNat).toNat : Nat)
  rw [UInt8.toNat_ofNat']
  congr 1
  omega
theorem pairs_open (hval : Value.okWide Try.prog W .any base 22 v) (h : DataW.Trod enc Try.prog W 0 (fun _ => true) true 22 v d p) : ∃ (q : SlH) (l : List (UInt8 × UInt8)), v = slv q ∧ RdE (World.hp W) (slv q) eB2 2 l ∧ l.length ≤ 9223372036854775807 := by
  obtain ⟨a, n, c, rfl⟩ := okWide_slice Try.underlying22 hval
  obtain ⟨fuel, hf⟩ := h
  obtain ⟨l, h1, h2, h3⟩ := op_slice (enc := eB2) (sz := 2) (Q := fun _ => True) Try.underlying22 (by kernel_rfl) (by decide) (fun n cs x h => by
    obtain ⟨l, hl, e⟩ := arr_at (m := 2) Try.underlying69 (by kernel_rfl) h
    match l, hl with
    | [a, b], _ => exact ⟨(a, b), e, trivial⟩) hf
  exact ⟨(a, n, c), l, rfl, h1, h3⟩
theorem three_open (hval : Value.okWide Try.prog W .any base 51 v) (h : DataW.Trod enc Try.prog W 0 (fun _ => true) true 51 v d p) : ∃ a b c : UInt8, v = .agg #[.int .u8 a.toNat, .int .u8 b.toNat, .int .u8 c.toNat] := by
  obtain ⟨cs, rfl, hsz⟩ := okWide_arr Try.underlying51 hval
  obtain ⟨fuel, hf⟩ := h
  obtain ⟨l⟩ := cs
  obtain ⟨zs, hz, hcs⟩ := arr_at (m := 3) Try.underlying51 (by kernel_rfl) hf
  match zs, hz with
  | [a, b, c], _ =>
    have : l = [.int .u8 a.toNat, .int .u8 b.toNat, .int .u8 c.toNat] := hcs
    subst this
    exact ⟨a, b, c, rfl⟩
theorem four_open (hval : Value.okWide Try.prog W .any base 56 v) (h : DataW.Trod enc Try.prog W 0 (fun _ => true) true 56 v d p) : ∃ a b c e : UInt8, v = .agg #[.int .u8 a.toNat, .int .u8 b.toNat, .int .u8 c.toNat, .int .u8 e.toNat] := by
  obtain ⟨cs, rfl, hsz⟩ := okWide_arr Try.underlying56 hval
  obtain ⟨fuel, hf⟩ := h
  obtain ⟨l⟩ := cs
  obtain ⟨zs, hz, hcs⟩ := arr_at (m := 4) Try.underlying56 (by kernel_rfl) hf
  match zs, hz with
  | [a, b, c, e], _ =>
    have : l = [.int .u8 a.toNat, .int .u8 b.toNat, .int .u8 c.toNat, .int .u8 e.toNat] := hcs
    subst this
    exact ⟨a, b, c, e, rfl⟩
theorem spot_at {n : Nat} {cs : List Value} {x : DataW H × List MemPlace} (h : DataW.trod enc Try.prog W 0 (fun _ => true) true n 30 cs = some x) : ∃ s : Sp, cs = eSp s := by
  obtain ⟨xs, m, _, _, hl, hlen, hf⟩ := DataW.trod_struct Try.underlying30 h
  rw [show Try.prog.cellsOf 30 = 3 by kernel_rfl] at hl
  have hlen : xs.length = 3 := hlen
  match xs, hlen with
  | [y0, y1, y2], _ =>
  have hc : Try.prog.cellsOf 3 = 1 := by kernel_rfl
  have g0 : DataW.trod enc Try.prog W 0 (fun _ => true) true m 3 ((cs.drop 0).take (Try.prog.cellsOf 3)) = some y0 := hf 0 _ rfl
  have g1 : DataW.trod enc Try.prog W 0 (fun _ => true) true m 3 ((cs.drop 1).take (Try.prog.cellsOf 3)) = some y1 := hf 1 _ rfl
  have g2 : DataW.trod enc Try.prog W 0 (fun _ => true) true m 3 ((cs.drop 2).take (Try.prog.cellsOf 3)) = some y2 := hf 2 _ rfl
  rw [hc] at g0 g1 g2
  match cs, hl with
  | [c0, c1, c2], _ =>
  obtain ⟨a, e0, _⟩ := op_int Try.underlying3 g0
  obtain ⟨b, e1, _⟩ := op_int Try.underlying3 g1
  obtain ⟨c, e2, _⟩ := op_int Try.underlying3 g2
  have r0 : [c0] = [I a] := e0
  have r1 : [c1] = [I b] := e1
  have r2 : [c2] = [I c] := e2
  simp only [List.cons.injEq, and_true] at r0 r1 r2
  subst r0 r1 r2
  exact ⟨(a, b, c), rfl⟩
theorem spots_open (hval : Value.okWide Try.prog W .any base 23 v) (h : DataW.Trod enc Try.prog W 0 (fun _ => true) true 23 v d p) : ∃ (q : SlH) (l : List Sp), v = slv q ∧ RdE (World.hp W) (slv q) eSp 3 l ∧ l.length ≤ 9223372036854775807 := by
  obtain ⟨a, n, c, rfl⟩ := okWide_slice Try.underlying23 hval
  obtain ⟨fuel, hf⟩ := h
  obtain ⟨l, h1, h2, h3⟩ := op_slice (enc := eSp) (sz := 3) (Q := fun _ => True) Try.underlying23 (by kernel_rfl) (by decide) (fun n cs x h => by
    obtain ⟨s, e⟩ := spot_at h
    exact ⟨s, e, trivial⟩) hf
  exact ⟨(a, n, c), l, rfl, h1, h3⟩
theorem ints_at {n : Nat} {x : DataW H × List MemPlace} (h : DataW.trod enc Try.prog W 0 (fun _ => true) true n 49 [v] = some x) : ∃ l : List Int, RdE (World.hp W) v eInt 1 l ∧ l.length ≤ 9223372036854775807 := by
  obtain ⟨l, h1, _, h3⟩ := op_slice (enc := eInt) (sz := 1) (Q := fun _ => True) Try.underlying49 (by kernel_rfl) (by decide) (fun n cs x h => by
    obtain ⟨b, h1, _⟩ := op_int Try.underlying3 h
    exact ⟨b, h1, trivial⟩) h
  exact ⟨l, h1, h3⟩
theorem all2_of {α β : Type} {R : α → β → Prop} {Q : β → Prop} : ∀ (l : List α), (∀ a ∈ l, ∃ b, R a b ∧ Q b) → ∃ m : List β, All2 R l m ∧ ∀ b ∈ m, Q b
  | [], _ => ⟨[], .nil, by simp⟩
  | a :: l, h => by
    obtain ⟨b, h1, h2⟩ := h a (by simp)
    obtain ⟨m, h3, h4⟩ := all2_of l fun x hx => h x (by simp [hx])
    exact ⟨b :: m, .cons h1 h3, fun y hy => by
      rcases List.mem_cons.1 hy with rfl | hy
      · exact h2
      · exact h4 y hy⟩
theorem lists_at {n : Nat} {x : DataW H × List MemPlace} (h : DataW.trod enc Try.prog W 0 (fun _ => true) true n 25 [v] = some x) : ∃ (q : SlH) (l : List (List Int)), v = slv q ∧ RdF (World.hp W) (slv q) eSlH 1 rI l ∧ l.length ≤ 9223372036854775807 ∧ ∀ m ∈ l, m.length ≤ 9223372036854775807 := by
  obtain ⟨hs, h1, h2, h3⟩ := op_slice (enc := eSlH) (sz := 1) (Q := fun y => ∃ m : List Int, rI (World.hp W) y m ∧ m.length ≤ 9223372036854775807) Try.underlying25 (by kernel_rfl) (by decide) (fun n cs x h => by
    rcases Go.Deep.open_slice Try.underlying49 h with ⟨e, _⟩ | ⟨a, len, cap, _, _, _, _, e, _⟩
    · subst e
      obtain ⟨m, r1, r2⟩ := ints_at h
      exact ⟨(none, 0, 0), rfl, m, r1, r2⟩
    · subst e
      obtain ⟨m, r1, r2⟩ := ints_at h
      exact ⟨(some a, len, cap), rfl, m, r1, r2⟩) h
  obtain ⟨l, h4, h5⟩ := all2_of hs h2
  obtain ⟨q, rfl⟩ := h1.hdr
  have := h4.len
  exact ⟨q, l, rfl, ⟨hs, h1, h4⟩, by omega, h5⟩
theorem loop_open (hval : Value.okWide Try.prog W .any base 27 v) (h : DataW.Trod enc Try.prog W 0 (fun _ => true) true 27 v d p) : ∃ (x : GrH) (g : Gr), v = vG x ∧ GrR (World.hp W) x g ∧ g.L.length ≤ 9223372036854775807 ∧ g.R.length ≤ 9223372036854775807 ∧ (∀ l ∈ g.L, l.length ≤ 9223372036854775807) ∧ ∀ l ∈ g.R, l.length ≤ 9223372036854775807 := by
  obtain ⟨cs, rfl, hsz⟩ := okWide_struct Try.underlying27 hval
  obtain ⟨fuel, hf'⟩ := h
  obtain ⟨xs, m, _, _, hl, hlen, hf⟩ := DataW.trod_struct Try.underlying27 hf'
  rw [show Try.prog.cellsOf 27 = 2 by kernel_rfl] at hl
  have hlen : xs.length = 2 := hlen
  match xs, hlen with
  | [y0, y1], _ =>
  have hc : Try.prog.cellsOf 25 = 1 := by kernel_rfl
  have g0 : DataW.trod enc Try.prog W 0 (fun _ => true) true m 25 ((cs.toList.drop 0).take (Try.prog.cellsOf 25)) = some y0 := hf 0 _ rfl
  have g1 : DataW.trod enc Try.prog W 0 (fun _ => true) true m 25 ((cs.toList.drop 1).take (Try.prog.cellsOf 25)) = some y1 := hf 1 _ rfl
  rw [hc] at g0 g1
  obtain ⟨cl⟩ := cs
  match cl, hl with
  | [c0, c1], _ =>
  obtain ⟨q0, l0, e0, r0, n0, m0⟩ := lists_at (show DataW.trod enc Try.prog W 0 (fun _ => true) true m 25 [c0] = some y0 from g0)
  obtain ⟨q1, l1, e1, r1, n1, m1⟩ := lists_at (show DataW.trod enc Try.prog W 0 (fun _ => true) true m 25 [c1] = some y1 from g1)
  subst e0 e1
  exact ⟨(q0, q1), ⟨l0, l1⟩, rfl, ⟨r0, r1⟩, n0, n1, m0, m1⟩
end
end Go.Proofs.Ytnepdmnkhjpnhaa
