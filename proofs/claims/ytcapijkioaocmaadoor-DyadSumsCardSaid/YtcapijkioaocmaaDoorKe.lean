/-
  Lemmas for the proof of the statement of this claim: a part of the road, no statement of its own. Conditions: those that each lemma names.
-/
import Derived.Test.YtcapijkioaocmaaDoorKd
import Derived.Test.YtcapijkioaocmaaDoorKr
import Derived.Test.YtcapijkioaocmaaDoorCards
import Derived.Test.YtcapijkioaocmaaDoorTie
set_option linter.unusedVariables false
set_option maxRecDepth 100000
namespace Go.Proofs.YtcapijkioaocmaaDoor
open Go Go.Sk Go.Dy Go.RowKit Go.WideShapes Go.ChangeShapes Go.ChangeAt
open Go.ChangeMaps (open_string)
theorem own : ownKnob Tryd.prog.godebug = none := by kernel_rfl
theorem laidOut : laidOutB Tryd.prog = true := by kernel_rfl
def lawLaid : List (String × DataW Unit) := [("math/bits.deBruijn32tab", Rows.laid_math_bits_deBruijn32tab), ("math/bits.deBruijn64tab", Rows.laid_math_bits_deBruijn64tab), ("internal/strconv.uint64pow10", Rows.laid_internal_strconv_uint64pow10), ("strconv.ErrRange", Rows.laid_strconv_ErrRange), ("strconv.ErrSyntax", Rows.laid_strconv_ErrSyntax)]
theorem star : "*" ++ "errors.errorString" = "*errors.errorString" := by decide
theorem rowErr (u : TypeId) (h : Tryd.prog.typeName? 3 u = some "*errors.errorString") : u = 111 :=
  typeName_ptr_named (nm := "errors.errorString") (by rw [star]; kernel_rfl) (by kernel_rfl) (by decide) u (by rw [star]; exact h)
theorem env_of {W : World} (hL : laidMetH Tryd.prog lawLaid W) (hsh : W.ShapedOpen Tryd.prog) : Env (World.hp W) := by
  rw [MakeChecks.laidMetH_plain _ _ _ (by kernel_rfl)] at hL
  have h1 := hL.tail
  have h2 := h1.tail
  have h3 := h2.tail
  have h4 := h3.tail
  have t64 : Lib.TabIs Tryd.prog W "math/bits.deBruijn64tab" .u8 (Lib.deBruijn64tab.map (fun n : Nat => (n : Int))) := Lib.tabIs_of_head (g := 1) (t := 83) (e := 5) (n := 64) (by kernel_rfl) (by kernel_rfl) Tryd.underlying83 Tryd.underlying5 (by kernel_rfl) (by kernel_rfl) h1
  have tp : Lib.TabIs Tryd.prog W "internal/strconv.uint64pow10" .u64 Lib.pow10Tab := Lib.tabIs_of_head (g := 5) (t := 104) (e := 75) (n := 20) (by kernel_rfl) (by kernel_rfl) Tryd.underlying104 Tryd.underlying75 (by kernel_rfl) (by kernel_rfl) h2
  obtain ⟨ar, sr, hr, _⟩ := laid_sentinel (g := 4) (ti := 68) (tp := 111) (te := 113) (ts := 9) h3 (by kernel_rfl) (by kernel_rfl) Tryd.underlying68 rowErr Tryd.underlying111 Tryd.underlying113 rfl rfl Tryd.underlying9 (by kernel_rfl) (by kernel_rfl)
  obtain ⟨az, sz, hs, _⟩ := laid_sentinel (g := 3) (ti := 68) (tp := 111) (te := 113) (ts := 9) h4 (by kernel_rfl) (by kernel_rfl) Tryd.underlying68 rowErr Tryd.underlying111 Tryd.underlying113 rfl rfl Tryd.underlying9 (by kernel_rfl) (by kernel_rfl)
  obtain ⟨m, hm⟩ := Tryd.laysM145.s1_3 W hsh
  refine ⟨?_, fun w hw => var_mono hw tp, ⟨m, fun w hw => hp_cell' hw hm⟩, ⟨_, _, fun w hw => var_mono hw hs⟩, ⟨_, _, fun w hw => var_mono hw hr⟩⟩
  intro i hi
  have := t64.cell (g := 1) (by kernel_rfl) i (by rw [List.length_map]; exact hi)
  rw [cell_hcell this]
  have e : (Lib.deBruijn64tab.map (fun n : Nat => (n : Int))).getD i 0 = ((Lib.deBruijn64tab.getD i 0 : Nat) : Int) := by
    simp only [List.getD, List.getElem?_map]
    cases Lib.deBruijn64tab[i]? <;> rfl
  rw [e]
theorem raw_open {H : Type} {enc : TypeId × Value → H} {W : World} {base : Nat} {v : Value} {d : DataW H} {p : List MemPlace} (hval : Value.okWide Tryd.prog W .any base 23 v) (h : DataW.Trod enc Tryd.prog W 0 (fun _ => true) true 23 v d p) :
    ∃ a x b, v = Raw a x b ∧ RawIn a x b := by
  obtain ⟨v0, v1, v2, y0, y1, y2, n, rfl, rfl, rfl, h0, h1, h2⟩ := Joins.open_agg3 Tryd.underlying23 (by kernel_rfl) (by kernel_rfl) hval h
  obtain ⟨a, e0, _, w0⟩ := DataW.trod_int Tryd.underlying21 h0
  obtain ⟨x, e1, _, w1⟩ := DataW.trod_int Tryd.underlying5 h1
  obtain ⟨b, e2, _, w2⟩ := DataW.trod_int Tryd.underlying5 h2
  simp only [List.cons.injEq, and_true] at e0 e1 e2
  subst e0 e1 e2
  exact ⟨a, x, b, rfl, bounds_i32 w0, bounds_u8 w1, bounds_u8 w2⟩
theorem okWide_arr {P : Program} {w : World} {r : Reach} {base : Nat} {t : TypeId} {n : Nat} {e : TypeId} {v : Value} (ht : P.underlying t = some (.array n e)) (h : Value.okWide P w r base t v) : ∃ cs, v = .agg cs ∧ cs.size = P.cellsOf t := by
  simp only [Value.okWide, ht] at h
  obtain ⟨cs, h1, h2, _⟩ := h
  exact ⟨cs, h1, h2⟩
theorem arr_open {H : Type} {enc : TypeId × Value → H} {W : World} {base : Nat} {v : Value} {d : DataW H} {p : List MemPlace} (hval : Value.okWide Tryd.prog W .any base 24 v) (h : DataW.Trod enc Tryd.prog W 0 (fun _ => true) true 24 v d p) :
    ∃ u x, v = .agg #[I u, I x] ∧ -9223372036854775808 ≤ u ∧ u ≤ 9223372036854775807 := by
  obtain ⟨cs, rfl, hsz⟩ := okWide_arr Tryd.underlying24 hval
  obtain ⟨c0, c1, rfl⟩ := Joins.array2 (hsz.trans (by kernel_rfl : Tryd.prog.cellsOf 24 = 2))
  obtain ⟨fuel, hf⟩ := h
  obtain ⟨xs, m, h1, h2, h3, h4, h5⟩ := DataW.trod_array Tryd.underlying24 hf
  have hc3 : Tryd.prog.cellsOf 3 = 1 := by kernel_rfl
  match xs, h4 with
  | [y0, y1], _ =>
    have g0 := h5 0 (by decide)
    have g1 := h5 1 (by decide)
    rw [hc3] at g0 g1
    obtain ⟨a, e0, _, w0⟩ := DataW.trod_int Tryd.underlying3 (show DataW.trod _ Tryd.prog W 0 _ true m 3 _ = some y0 from g0)
    obtain ⟨b, e1, _, w1⟩ := DataW.trod_int Tryd.underlying3 (show DataW.trod _ Tryd.prog W 0 _ true m 3 _ = some y1 from g1)
    have e0' : [c0] = [Value.int .i64 a] := e0
    have e1' : [c1] = [Value.int .i64 b] := e1
    simp only [List.cons.injEq, and_true] at e0' e1'
    subst e0' e1'
    exact ⟨a, b, rfl, bounds_i64 w0⟩
end Go.Proofs.YtcapijkioaocmaaDoor
