/-
  Lemmas for the proof of the statement of this claim: a part of the road, no statement of its own. Conditions: those that each lemma names.
-/
import Derived.Test.YtlljhipmnkdpeaaGreatDoorKd
import Derived.Test.YtlljhipmnkdpeaaGreatDoorKr
import Derived.Test.YtlljhipmnkdpeaaGreatDoorCards
import Derived.Test.YtlljhipmnkdpeaaGreatDoorTie
set_option linter.unusedVariables false
set_option maxRecDepth 100000
namespace Go.Proofs.YtlljhipmnkdpeaaGreatDoor
open Go Go.Sk Go.Pr Go.RowKit Go.WideShapes Go.ChangeShapes Go.ChangeAt
theorem okWide_arr {P : Program} {w : World} {r : Reach} {base : Nat} {t : TypeId} {n : Nat} {e : TypeId} {v : Value} (ht : P.underlying t = some (.array n e)) (h : Value.okWide P w r base t v) : ∃ cs, v = .agg cs ∧ cs.size = P.cellsOf t := by
  simp only [Value.okWide, ht] at h
  obtain ⟨cs, h1, h2, _⟩ := h
  exact ⟨cs, h1, h2⟩
theorem own : ownKnob Tryz.prog.godebug = none := by kernel_rfl
theorem laidOut : laidOutB Tryz.prog = true := by kernel_rfl
def lawLaid : List (String × DataW Unit) := [("math/bits.deBruijn32tab", Rows.laid_math_bits_deBruijn32tab), ("math/bits.deBruijn64tab", Rows.laid_math_bits_deBruijn64tab), ("internal/strconv.uint64pow10", Rows.laid_internal_strconv_uint64pow10), ("unicode/utf8.acceptRanges", Rows.laid_unicode_utf8_acceptRanges), ("strconv.ErrRange", Rows.laid_strconv_ErrRange), ("strconv.ErrSyntax", Rows.laid_strconv_ErrSyntax), ("unicode/utf8.first", Rows.laid_unicode_utf8_first)]
theorem star : "*" ++ "errors.errorString" = "*errors.errorString" := by decide
theorem rowErr (u : TypeId) (h : Tryz.prog.typeName? 3 u = some "*errors.errorString") : u = 158 :=
  typeName_ptr_named (nm := "errors.errorString") (by rw [star]; kernel_rfl) (by kernel_rfl) (by decide) u (by rw [star]; exact h)
theorem env_of {W : World} (hL : laidMetH Tryz.prog lawLaid W) (hsh : W.ShapedOpen Tryz.prog) : Env (World.hp W) := by
  rw [MakeChecks.laidMetH_plain _ _ _ (by kernel_rfl)] at hL
  have h1 := hL.tail
  have h2 := h1.tail
  have h3 := h2.tail
  have h4 := h3.tail
  have h5 := h4.tail
  have tp : Lib.TabIs Tryz.prog W "internal/strconv.uint64pow10" .u64 Lib.pow10Tab := Lib.tabIs_of_head (g := 0) (t := 142) (e := 106) (n := 20) (by kernel_rfl) (by kernel_rfl) Tryz.underlying142 Tryz.underlying106 (by kernel_rfl) (by kernel_rfl) h2
  obtain ⟨ar, sr, hr, _⟩ := laid_sentinel (g := 3) (ti := 88) (tp := 158) (te := 160) (ts := 9) h4 (by kernel_rfl) (by kernel_rfl) Tryz.underlying88 rowErr Tryz.underlying158 Tryz.underlying160 rfl rfl Tryz.underlying9 (by kernel_rfl) (by kernel_rfl)
  obtain ⟨az, sz, hs, _⟩ := laid_sentinel (g := 2) (ti := 88) (tp := 158) (te := 160) (ts := 9) h5 (by kernel_rfl) (by kernel_rfl) Tryz.underlying88 rowErr Tryz.underlying158 Tryz.underlying160 rfl rfl Tryz.underlying9 (by kernel_rfl) (by kernel_rfl)
  obtain ⟨m, hm⟩ := Tryz.laysM146.s1_3 W hsh
  exact ⟨fun w hw => var_mono hw tp, ⟨m, fun w hw => hp_cell' hw hm⟩, ⟨_, _, fun w hw => var_mono hw hs⟩, ⟨_, _, fun w hw => var_mono hw hr⟩⟩
section
variable {H : Type} {enc : TypeId × Value → H} {W : World} {base : Nat} {v : Value} {d : DataW H} {p : List MemPlace}
theorem u8s_at {n : Nat} {x : DataW H × List MemPlace} (h : DataW.trod enc Tryz.prog W 0 (fun _ => true) true n 22 [v] = some x) : ∃ l, U8s (World.hp W) v l := by
  obtain ⟨l, h1, h2, h3⟩ := op_slice (enc := eU) (sz := 1) (Q := fun z => 0 ≤ z ∧ z ≤ 255) Tryz.underlying22 (by kernel_rfl) (by decide) (fun n cs x h => by
    obtain ⟨z, h1, h2⟩ := op_int Tryz.underlying5 h
    exact ⟨z, h1, bounds_u8 h2⟩) h
  exact ⟨l, h1, h2, h3⟩
theorem u8s_open (hval : Value.okWide Tryz.prog W .any base 22 v) (h : DataW.Trod enc Tryz.prog W 0 (fun _ => true) true 22 v d p) : ∃ l, U8s (World.hp W) v l := by
  obtain ⟨a, n, c, rfl⟩ := okWide_slice Tryz.underlying22 hval
  obtain ⟨fuel, hf⟩ := h
  exact u8s_at hf
theorem u8s2_open (hval : Value.okWide Tryz.prog W .any base 37 v) (h : DataW.Trod enc Tryz.prog W 0 (fun _ => true) true 37 v d p) : ∃ x y l m, v = .agg #[x, y] ∧ U8s (World.hp W) x l ∧ U8s (World.hp W) y m := by
  obtain ⟨cs, rfl, hsz⟩ := okWide_arr Tryz.underlying37 hval
  obtain ⟨c0, c1, rfl⟩ := Joins.array2 (hsz.trans (by kernel_rfl : Tryz.prog.cellsOf 37 = 2))
  obtain ⟨fuel, hf⟩ := h
  obtain ⟨xs, m, h1, h2, h3, h4, h5⟩ := DataW.trod_array Tryz.underlying37 hf
  have hc : Tryz.prog.cellsOf 22 = 1 := by kernel_rfl
  match xs, h4 with
  | [y0, y1], _ =>
    have g0 := h5 0 (by decide)
    have g1 := h5 1 (by decide)
    rw [hc] at g0 g1
    obtain ⟨l, hl⟩ := u8s_at (show DataW.trod enc Tryz.prog W 0 _ true m 22 [c0] = some y0 from g0)
    obtain ⟨l', hl'⟩ := u8s_at (show DataW.trod enc Tryz.prog W 0 _ true m 22 [c1] = some y1 from g1)
    exact ⟨_, _, l, l', rfl, hl, hl'⟩
theorem step_at {n : Nat} {cs : List Value} {x : DataW H × List MemPlace} (h : DataW.trod enc Tryz.prog W 0 (fun _ => true) true n 41 cs = some x) : ∃ s : Stp, cs = encP s ∧ True := by
  obtain ⟨y0, y1, m, _, hl, h0, h1⟩ := trod_struct2 Tryz.underlying41 h
  rw [show Tryz.prog.cellsOf 41 = 2 by kernel_rfl] at hl
  match cs, hl with
  | [c0, c1], _ =>
    have hc : Tryz.prog.cellsOf 3 = 1 := by kernel_rfl
    dsimp only at h0 h1
    rw [hc] at h0 h1
    obtain ⟨a, e0, _⟩ := op_int Tryz.underlying3 h0
    obtain ⟨b, e1, _⟩ := op_int Tryz.underlying3 h1
    have e0' : [c0] = [I a] := e0
    have e1' : [c1] = [I b] := e1
    simp only [List.cons.injEq, and_true] at e0' e1'
    subst e0' e1'
    exact ⟨(a, b), rfl, trivial⟩
theorem steps_open (hval : Value.okWide Tryz.prog W .any base 23 v) (h : DataW.Trod enc Tryz.prog W 0 (fun _ => true) true 23 v d p) : ∃ l : List Stp, RdE (World.hp W) v encP 2 l ∧ l.length ≤ 9223372036854775807 := by
  obtain ⟨a, n, c, rfl⟩ := okWide_slice Tryz.underlying23 hval
  obtain ⟨fuel, hf⟩ := h
  obtain ⟨l, h1, h2, h3⟩ := op_slice (enc := encP) (sz := 2) (Q := fun _ => True) Tryz.underlying23 (by kernel_rfl) (by decide) (fun n cs x h => step_at h) hf
  exact ⟨l, h1, h3⟩
theorem step_open (hval : Value.okWide Tryz.prog W .any base 41 v) (h : DataW.Trod enc Tryz.prog W 0 (fun _ => true) true 41 v d p) : ∃ a b, v = Sv (a, b) := by
  obtain ⟨cs, rfl, hsz⟩ := okWide_struct Tryz.underlying41 hval
  obtain ⟨fuel, hf⟩ := h
  obtain ⟨s, hs, _⟩ := step_at hf
  refine ⟨s.1, s.2, ?_⟩
  obtain ⟨l⟩ := cs
  have : l = encP s := hs
  subst this
  rfl
theorem ints3_open (hval : Value.okWide Tryz.prog W .any base 24 v) (h : DataW.Trod enc Tryz.prog W 0 (fun _ => true) true 24 v d p) : ∃ a b c, v = .agg #[I a, I b, I c] := by
  obtain ⟨cs, rfl, hsz⟩ := okWide_arr Tryz.underlying24 hval
  obtain ⟨fuel, hf⟩ := h
  obtain ⟨zs, hz, hcs, _⟩ := op_ints Tryz.underlying24 Tryz.underlying3 (by kernel_rfl) (by kernel_rfl) hf
  obtain ⟨l⟩ := cs
  match zs, hz with
  | [a, b, c], _ =>
    have : l = [I a, I b, I c] := hcs
    subst this
    exact ⟨a, b, c, rfl⟩
theorem bytes_open {t n : Nat} (ht : Tryz.prog.underlying t = some (.array n 5)) (hc : Tryz.prog.cellsOf t = n) (hval : Value.okWide Tryz.prog W .any base t v) (h : DataW.Trod enc Tryz.prog W 0 (fun _ => true) true t v d p) :
    ∃ zs : List Int, zs.length = n ∧ v = .agg (zs.map (Value.int .u8)).toArray ∧ ∀ z ∈ zs, 0 ≤ z ∧ z ≤ 255 := by
  obtain ⟨cs, rfl, hsz⟩ := okWide_arr ht hval
  obtain ⟨fuel, hf⟩ := h
  obtain ⟨zs, hz, hcs, hw⟩ := op_ints ht Tryz.underlying5 (by kernel_rfl) hc hf
  obtain ⟨l⟩ := cs
  have : l = zs.map (Value.int .u8) := hcs
  subst this
  exact ⟨zs, hz, rfl, fun z hz => bounds_u8 (hw z hz)⟩
theorem bytes3_open (hval : Value.okWide Tryz.prog W .any base 54 v) (h : DataW.Trod enc Tryz.prog W 0 (fun _ => true) true 54 v d p) : ∃ a b c : Int, v = .agg #[.int .u8 a, .int .u8 b, .int .u8 c] ∧ (0 ≤ a ∧ a ≤ 255) ∧ (0 ≤ b ∧ b ≤ 255) ∧ (0 ≤ c ∧ c ≤ 255) := by
  obtain ⟨zs, hz, rfl, hb⟩ := bytes_open Tryz.underlying54 (by kernel_rfl) hval h
  match zs, hz with
  | [a, b, c], _ => exact ⟨a, b, c, rfl, hb a (by simp), hb b (by simp), hb c (by simp)⟩
theorem bytes2_open (hval : Value.okWide Tryz.prog W .any base 42 v) (h : DataW.Trod enc Tryz.prog W 0 (fun _ => true) true 42 v d p) : ∃ a b : Int, v = .agg #[.int .u8 a, .int .u8 b] ∧ (0 ≤ a ∧ a ≤ 255) ∧ (0 ≤ b ∧ b ≤ 255) := by
  obtain ⟨zs, hz, rfl, hb⟩ := bytes_open Tryz.underlying42 (by kernel_rfl) hval h
  match zs, hz with
  | [a, b], _ => exact ⟨a, b, rfl, hb a (by simp), hb b (by simp)⟩
end
end Go.Proofs.YtlljhipmnkdpeaaGreatDoor
