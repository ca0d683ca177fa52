/-
  Lemmas for the proof of the statement of this claim: a part of the road, no statement of its own. Conditions: those that each lemma names.
-/
import Derived.Test.YtcmokdokcghooaaGreatDoorKe
import Derived.Test.YtcmokdokcghooaaGreatDoorKh
import Derived.Test.YtcmokdokcghooaaGreatDoorKt
import Derived.Test.YtcmokdokcghooaaGreatDoorKr
import Derived.Test.YtcmokdokcghooaaGreatDoorCards
import Derived.Test.YtcmokdokcghooaaGreatDoorTie
section
set_option linter.unusedVariables false
set_option maxHeartbeats 4000000
namespace Go.Proofs.YtcmokdokcghooaaGreatDoor
open Go Go.Sk Go.Pr Go.Ps Go.RowKit
instance rwSubl {r : Nat → UInt8} : Subl (eRw r) 0 18 (eRw r) := ⟨[], [], by simp, rfl, rfl⟩
end Go.Proofs.YtcmokdokcghooaaGreatDoor
end

section
set_option linter.unusedVariables false
set_option maxRecDepth 100000
namespace Go.Proofs.YtcmokdokcghooaaGreatDoor
open Go Go.Sk Go.Pr Go.Ps Go.RowKit Go.WideShapes Go.ChangeShapes Go.ChangeAt
theorem okWide_arr {P : Program} {w : World} {r : Reach} {base : Nat} {t : TypeId} {n : Nat} {e : TypeId} {v : Value} (ht : P.underlying t = some (.array n e)) (h : Value.okWide P w r base t v) : ∃ cs, v = .agg cs ∧ cs.size = P.cellsOf t := by
  simp only [Value.okWide, ht] at h
  obtain ⟨cs, h1, h2, _⟩ := h
  exact ⟨cs, h1, h2⟩
theorem own : ownKnob Tryz.prog.godebug = none := by kernel_rfl
theorem laidOut : laidOutB Tryz.prog = true := by kernel_rfl
def lawLaid : List (String × DataW Unit) := [("math/bits.deBruijn32tab", Rows.laid_math_bits_deBruijn32tab), ("math/bits.deBruijn64tab", Rows.laid_math_bits_deBruijn64tab), ("internal/strconv.uint64pow10", Rows.laid_internal_strconv_uint64pow10), ("unicode/utf8.acceptRanges", Rows.laid_unicode_utf8_acceptRanges), ("strconv.ErrRange", Rows.laid_strconv_ErrRange), ("strconv.ErrSyntax", Rows.laid_strconv_ErrSyntax), ("unicode/utf8.first", Rows.laid_unicode_utf8_first)]
theorem star : "*" ++ "errors.errorString" = "*errors.errorString" := by decide
theorem rowErr (u : TypeId) (h : Tryz.prog.typeName? 3 u = some "*errors.errorString") : u = 211 :=
  typeName_ptr_named (nm := "errors.errorString") (by rw [star]; kernel_rfl) (by kernel_rfl) (by decide) u (by rw [star]; exact h)
theorem env_of {W : World} (hL : laidMetH Tryz.prog lawLaid W) (hsh : W.ShapedOpen Tryz.prog) : Env (World.hp W) := by
  rw [MakeChecks.laidMetH_plain _ _ _ (by kernel_rfl)] at hL
  have h1 := hL.tail
  have h2 := h1.tail
  have h3 := h2.tail
  have h4 := h3.tail
  have h5 := h4.tail
  have tp : Lib.TabIs Tryz.prog W "internal/strconv.uint64pow10" .u64 Lib.pow10Tab := Lib.tabIs_of_head (g := 3) (t := 218) (e := 180) (n := 20) (by kernel_rfl) (by kernel_rfl) Tryz.underlying218 Tryz.underlying180 (by kernel_rfl) (by kernel_rfl) h2
  obtain ⟨ar, sr, hr, _⟩ := laid_sentinel (g := 1) (ti := 94) (tp := 211) (te := 213) (ts := 9) h4 (by kernel_rfl) (by kernel_rfl) Tryz.underlying94 rowErr Tryz.underlying211 Tryz.underlying213 rfl rfl Tryz.underlying9 (by kernel_rfl) (by kernel_rfl)
  obtain ⟨az, sz, hs, _⟩ := laid_sentinel (g := 0) (ti := 94) (tp := 211) (te := 213) (ts := 9) h5 (by kernel_rfl) (by kernel_rfl) Tryz.underlying94 rowErr Tryz.underlying211 Tryz.underlying213 rfl rfl Tryz.underlying9 (by kernel_rfl) (by kernel_rfl)
  obtain ⟨m, hm⟩ := Tryz.laysM146.s1_3 W hsh
  exact ⟨fun w hw => var_mono hw tp, ⟨m, fun w hw => hp_cell' hw hm⟩, ⟨_, _, fun w hw => var_mono hw hs⟩, ⟨_, _, fun w hw => var_mono hw hr⟩⟩
section
theorem u8_of {z : Int} (hw : (Lit.int .u8 z).wf = true) : ∃ b : UInt8, z = b.toNat := by
  have := bounds_u8 hw
  refine ⟨UInt8.ofNat z.toNat, ?_⟩
  rw [UInt8.toNat_ofNat']
  omega
variable {H : Type} {enc : TypeId × Value → H} {W : World} {base : Nat} {v : Value} {d : DataW H} {p : List MemPlace}
theorem byt_at {n : Nat} {cs : List Value} {x : DataW H × List MemPlace} (h : DataW.trod enc Tryz.prog W 0 (fun _ => true) true n 5 cs = some x) : ∃ b : UInt8, cs = [.int .u8 b.toNat] := by
  obtain ⟨z, h1, h2⟩ := op_int Tryz.underlying5 h
  obtain ⟨b, rfl⟩ := u8_of h2
  exact ⟨b, h1⟩
theorem bytes_at {n : Nat} {x : DataW H × List MemPlace} (h : DataW.trod enc Tryz.prog W 0 (fun _ => true) true n 22 [v] = some x) : ∃ l : List UInt8, RdE (World.hp W) v eByte 1 l ∧ l.length ≤ 9223372036854775807 := by
  obtain ⟨l, h1, _, h3⟩ := op_slice (enc := eByte) (sz := 1) (Q := fun _ => True) Tryz.underlying22 (by kernel_rfl) (by decide) (fun n cs x h => by
    obtain ⟨b, h1⟩ := byt_at h
    exact ⟨b, h1, trivial⟩) h
  exact ⟨l, h1, h3⟩
theorem arr_at {t m n : Nat} {cs : List Value} {x : DataW H × List MemPlace} (ht : Tryz.prog.underlying t = some (.array m 5)) (hc : Tryz.prog.cellsOf t = m) (h : DataW.trod enc Tryz.prog W 0 (fun _ => true) true n t cs = some x) : ∃ l : List UInt8, l.length = m ∧ cs = l.map fun b => Value.int .u8 b.toNat := by
  obtain ⟨zs, hz, hcs, hw⟩ := op_ints ht Tryz.underlying5 (by kernel_rfl) hc h
  refine ⟨zs.map fun z => UInt8.ofNat z.toNat, by rw [List.length_map]; exact hz, ?_⟩
  rw [hcs, List.map_map]
  refine List.map_congr_left fun z hz => ?_
  have := bounds_u8 (hw z hz)
  show Value.int .u8 z = Value.int .u8 ((UInt8.ofNat z.toNat).toNat : Nat)
  rw [UInt8.toNat_ofNat']
  congr 1
  omega
theorem rw_at {n : Nat} {cs : List Value} {x : DataW H × List MemPlace} (h : DataW.trod enc Tryz.prog W 0 (fun _ => true) true n 30 cs = some x) : ∃ r : Nat → UInt8, cs = eRw r ∧ True := by
  obtain ⟨xs, m, _, _, hl, hlen, hf⟩ := DataW.trod_struct Tryz.underlying30 h
  rw [show Tryz.prog.cellsOf 30 = 18 by kernel_rfl] at hl
  have hlen : xs.length = 5 := hlen
  match xs, hlen with
  | [y0, y1, y2, y3, y4], _ =>
  have g0 : DataW.trod enc Tryz.prog W 0 (fun _ => true) true m 25 ((cs.drop 0).take (Tryz.prog.cellsOf 25)) = some y0 := hf 0 _ rfl
  have g1 : DataW.trod enc Tryz.prog W 0 (fun _ => true) true m 25 ((cs.drop 6).take (Tryz.prog.cellsOf 25)) = some y1 := hf 1 _ rfl
  have g2 : DataW.trod enc Tryz.prog W 0 (fun _ => true) true m 28 ((cs.drop 12).take (Tryz.prog.cellsOf 28)) = some y2 := hf 2 _ rfl
  have g3 : DataW.trod enc Tryz.prog W 0 (fun _ => true) true m 5 ((cs.drop 16).take (Tryz.prog.cellsOf 5)) = some y3 := hf 3 _ rfl
  have g4 : DataW.trod enc Tryz.prog W 0 (fun _ => true) true m 5 ((cs.drop 17).take (Tryz.prog.cellsOf 5)) = some y4 := hf 4 _ rfl
  obtain ⟨l0, k0, e0⟩ := arr_at (m := 6) Tryz.underlying25 (by kernel_rfl) g0
  obtain ⟨l1, k1, e1⟩ := arr_at (m := 6) Tryz.underlying25 (by kernel_rfl) g1
  obtain ⟨l2, k2, e2⟩ := arr_at (m := 4) Tryz.underlying28 (by kernel_rfl) g2
  obtain ⟨b3, e3⟩ := byt_at g3
  obtain ⟨b4, e4⟩ := byt_at g4
  refine ⟨fun i => (l0 ++ (l1 ++ (l2 ++ [b3, b4]))).getD i 0, ?_, trivial⟩
  have hc : cs = (l0 ++ (l1 ++ (l2 ++ [b3, b4]))).map fun b => Value.int .u8 b.toNat := by
    rw [show Tryz.prog.cellsOf 25 = 6 by kernel_rfl] at e0 e1
    rw [show Tryz.prog.cellsOf 28 = 4 by kernel_rfl] at e2
    rw [show Tryz.prog.cellsOf 5 = 1 by kernel_rfl] at e3 e4
    match cs, hl with
    | [c0, c1, c2, c3, c4, c5, c6, c7, c8, c9, c10, c11, c12, c13, c14, c15, c16, c17], _ =>
    have e0 : [c0, c1, c2, c3, c4, c5] = l0.map fun b => Value.int .u8 b.toNat := e0
    have e1 : [c6, c7, c8, c9, c10, c11] = l1.map fun b => Value.int .u8 b.toNat := e1
    have e2 : [c12, c13, c14, c15] = l2.map fun b => Value.int .u8 b.toNat := e2
    have e3 : [c16] = [.int .u8 b3.toNat] := e3
    have e4 : [c17] = [.int .u8 b4.toNat] := e4
    rw [List.map_append, List.map_append, List.map_append, ← e0, ← e1, ← e2]
    show _ = [c0, c1, c2, c3, c4, c5] ++ ([c6, c7, c8, c9, c10, c11] ++ ([c12, c13, c14, c15] ++ ([.int .u8 b3.toNat] ++ [.int .u8 b4.toNat])))
    rw [← e3, ← e4]
    rfl
  rw [hc]
  have hlen : (l0 ++ (l1 ++ (l2 ++ [b3, b4]))).length = 18 := by simp [k0, k1, k2]
  generalize l0 ++ (l1 ++ (l2 ++ [b3, b4])) = l at *
  apply List.ext_getElem?
  intro i
  by_cases hi : i < 18
  · rw [eRw_at _ hi, List.getElem?_map, List.getElem?_eq_getElem (by omega), List.getD_eq_getElem?_getD, List.getElem?_eq_getElem (by omega)]
    rfl
  · rw [List.getElem?_eq_none (by simp; omega), List.getElem?_eq_none (by simp [eRw]; omega)]
theorem raw_open (hval : Value.okWide Tryz.prog W .any base 30 v) (h : DataW.Trod enc Tryz.prog W 0 (fun _ => true) true 30 v d p) : ∃ r, v = vRw r := by
  obtain ⟨cs, rfl, hsz⟩ := okWide_struct Tryz.underlying30 hval
  obtain ⟨fuel, hf⟩ := h
  obtain ⟨r, hr, _⟩ := rw_at hf
  obtain ⟨l⟩ := cs
  have : l = eRw r := hr
  subst this
  exact ⟨r, rfl⟩
theorem raws_open (hval : Value.okWide Tryz.prog W .any base 62 v) (h : DataW.Trod enc Tryz.prog W 0 (fun _ => true) true 62 v d p) : ∃ l, RdE (World.hp W) v eRw 18 l ∧ l.length ≤ 9223372036854775807 := by
  obtain ⟨a, n, c, rfl⟩ := okWide_slice Tryz.underlying62 hval
  obtain ⟨fuel, hf⟩ := h
  obtain ⟨l, h1, h2, h3⟩ := op_slice (enc := eRw) (sz := 18) (Q := fun _ => True) Tryz.underlying62 (by kernel_rfl) (by decide) (fun n cs x h => rw_at h) hf
  exact ⟨l, h1, h3⟩
theorem clauses_at {n : Nat} {x : DataW H × List MemPlace} (h : DataW.trod enc Tryz.prog W 0 (fun _ => true) true n 24 [v] = some x) : ∃ l, RdE (World.hp W) v eC3 3 l ∧ l.length ≤ 9223372036854775807 := by
  obtain ⟨l, h1, _, h3⟩ := op_slice (enc := eC3) (sz := 3) (Q := fun _ => True) Tryz.underlying24 (by kernel_rfl) (by decide) (fun n cs x h => by
    obtain ⟨l, hl, e⟩ := arr_at (m := 3) Tryz.underlying87 (by kernel_rfl) h
    match l, hl with
    | [a, b, c], _ => exact ⟨(a, b, c), e, trivial⟩) h
  exact ⟨l, h1, h3⟩
theorem game_open (hval : Value.okWide Tryz.prog W .any base 27 v) (h : DataW.Trod enc Tryz.prog W 0 (fun _ => true) true 27 v d p) : ∃ x b0 b1 C, v = vRg x ∧ RgR (World.hp W) x b0 b1 C := by
  obtain ⟨cs, rfl, hsz⟩ := okWide_struct Tryz.underlying27 hval
  obtain ⟨fuel, hf'⟩ := h
  obtain ⟨xs, m, _, _, hl, hlen, hf⟩ := DataW.trod_struct Tryz.underlying27 hf'
  rw [show Tryz.prog.cellsOf 27 = 12 by kernel_rfl] at hl
  have hlen : xs.length = 6 := hlen
  obtain ⟨l⟩ := cs
  match xs, hlen with
  | [y0, y1, y2, y3, y4, y5], _ =>
  have g0 : DataW.trod enc Tryz.prog W 0 (fun _ => true) true m 5 ((l.drop 0).take (Tryz.prog.cellsOf 5)) = some y0 := hf 0 _ rfl
  have g1 : DataW.trod enc Tryz.prog W 0 (fun _ => true) true m 5 ((l.drop 1).take (Tryz.prog.cellsOf 5)) = some y1 := hf 1 _ rfl
  have g2 : DataW.trod enc Tryz.prog W 0 (fun _ => true) true m 5 ((l.drop 2).take (Tryz.prog.cellsOf 5)) = some y2 := hf 2 _ rfl
  have g3 : DataW.trod enc Tryz.prog W 0 (fun _ => true) true m 23 ((l.drop 3).take (Tryz.prog.cellsOf 23)) = some y3 := hf 3 _ rfl
  have g4 : DataW.trod enc Tryz.prog W 0 (fun _ => true) true m 24 ((l.drop 5).take (Tryz.prog.cellsOf 24)) = some y4 := hf 4 _ rfl
  have g5 : DataW.trod enc Tryz.prog W 0 (fun _ => true) true m 25 ((l.drop 6).take (Tryz.prog.cellsOf 25)) = some y5 := hf 5 _ rfl
  obtain ⟨w0, e0⟩ := byt_at g0
  obtain ⟨w1, e1⟩ := byt_at g1
  obtain ⟨w2, e2⟩ := byt_at g2
  obtain ⟨f, kf, e5⟩ := arr_at (m := 6) Tryz.underlying25 (by kernel_rfl) g5
  rw [show Tryz.prog.cellsOf 5 = 1 by kernel_rfl] at e0 e1 e2
  rw [show Tryz.prog.cellsOf 25 = 6 by kernel_rfl] at e5
  have hl : l.length = 12 := hl
  match l, hl, f, kf with
  | [c0, c1, c2, c3, c4, c5, c6, c7, c8, c9, c10, c11], _, [f0, f1, f2, f3, f4, f5], _ =>
  have p0 : [c0] = [.int .u8 w0.toNat] := e0
  have p1 : [c1] = [.int .u8 w1.toNat] := e1
  have p2 : [c2] = [.int .u8 w2.toNat] := e2
  have p5 : [c6, c7, c8, c9, c10, c11] = [.int .u8 f0.toNat, .int .u8 f1.toNat, .int .u8 f2.toNat, .int .u8 f3.toNat, .int .u8 f4.toNat, .int .u8 f5.toNat] := e5
  simp only [List.cons.injEq, and_true] at p0 p1 p2 p5
  obtain ⟨rfl, rfl, rfl, rfl, rfl, rfl⟩ := p5
  subst p0 p1 p2
  rw [show Tryz.prog.cellsOf 23 = 2 by kernel_rfl] at g3
  rw [show Tryz.prog.cellsOf 24 = 1 by kernel_rfl] at g4
  have g3 : DataW.trod enc Tryz.prog W 0 (fun _ => true) true m 23 [c3, c4] = some y3 := g3
  have g4 : DataW.trod enc Tryz.prog W 0 (fun _ => true) true m 24 [c5] = some y4 := g4
  obtain ⟨zs, m', q1, q2, q3, q4, q5⟩ := DataW.trod_array Tryz.underlying23 g3
  have hc : Tryz.prog.cellsOf 22 = 1 := by kernel_rfl
  match zs, q4 with
  | [z0, z1], _ =>
  have i0 := q5 0 (by decide)
  have i1 := q5 1 (by decide)
  rw [hc] at i0 i1
  obtain ⟨b0, r0, n0⟩ := bytes_at (show DataW.trod enc Tryz.prog W 0 _ true m' 22 [c3] = some z0 from i0)
  obtain ⟨b1, r1, n1⟩ := bytes_at (show DataW.trod enc Tryz.prog W 0 _ true m' 22 [c4] = some z1 from i1)
  obtain ⟨C, rC, nC⟩ := clauses_at g4
  obtain ⟨k0, rfl⟩ := r0.hdr
  obtain ⟨k1, rfl⟩ := r1.hdr
  obtain ⟨kc, rfl⟩ := rC.hdr
  exact ⟨⟨w0, w1, w2, k0, k1, kc, fun i => [f0, f1, f2, f3, f4, f5].getD i 0⟩, b0, b1, C, rfl, ⟨r0, r1, rC, n0, n1, nC⟩⟩
end
end Go.Proofs.YtcmokdokcghooaaGreatDoor
end

