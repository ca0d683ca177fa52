/-
  Lemmas for the proof of the statement of this claim: a part of the road, no statement of its own. Conditions: those that each lemma names.
-/
import Derived.Test.YtcmokdokcghooaaGreatDoorL3
import Derived.Test.YtcmokdokcghooaaGreatDoorKi
section
set_option linter.unusedVariables false
set_option maxHeartbeats 4000000
namespace Go.Proofs.YtcmokdokcghooaaGreatDoor
open Go Go.Sk Go.Pr Go.Ps Go.RowKit
abbrev vRw2 (a b : Nat → UInt8) : Value := .agg (eRw a ++ eRw b).toArray
instance rw2a {a b : Nat → UInt8} : Subl (eRw a ++ eRw b) 0 18 (eRw a) := ⟨[], eRw b, by simp, rfl, rfl⟩
instance rw2b {a b : Nat → UInt8} : Subl (eRw a ++ eRw b) 18 18 (eRw b) := ⟨eRw a, [], by simp, rfl, rfl⟩
instance ix810 {S : WP} {b o : Nat} : Yd Tryz.prog S (V (Instr.indexAt 81 (ptr b o) (.int .i64 0))) (ptr b o) := Yd.ixA (sz := 18) (e := 30) (n := 2) ⟨by decide, by decide⟩ rfl
instance ix811 {S : WP} {b o c : Nat} [hc : AddN o 18 c] : Yd Tryz.prog S (V (Instr.indexAt 81 (ptr b o) (.int .i64 1))) (ptr b c) := Yd.ixA (sz := 18) (e := 30) (n := 2) ⟨by decide, by decide⟩ hc.ok
theorem rw2_at (a b : Nat → UInt8) {i : Nat} (hi : i < 18) : (eRw a ++ eRw b)[18 + i]? = some (.int .u8 (b i).toNat) := by
  rw [List.getElem?_append_right (by show 18 ≤ 18 + i; omega), show 18 + i - (eRw a).length = i by show 18 + i - 18 = i; omega]
  exact eRw_at b hi
theorem texts_ok (x : RwG) (b0 b1 : List UInt8) (C : List (UInt8 × UInt8 × UInt8)) (ra rb : Nat → UInt8) (put : List UInt8) (h : Hp) (hE : Env h) (hx : RgR h x b0 b1 C) : Ct Tryz.prog 11 [vRg x, vRw2 ra rb, Str put] h (fun _ y => y = .bool true) := by
  refine ct11 ?_
  intro w0
  unfold s11
  have f0 := u8lt (rb 0)
  have f1 := u8lt (rb 1)
  (repeat (refine Gs.box ?_; intro _))
  rename_i xb yb
  refine Gs.callv0 (sanity_ok h hE) ?_
  (repeat (refine G.step ?_))
  refine G.ifd ?_ ?_ <;> intro hput
  · exact Gs.ret rfl
  · (repeat (refine G.step ?_))
    refine Gs.call0 (made3_ok x b0 b1 C h hx) ?_
    rintro _ h1 le1 ⟨xg, g, rfl, hg, hG⟩
    have hE1 := hE.mono le1
    have hk2 := hG.k.l2
    have hr2 := hG.r
    have hc9 := hG.b.c9
    (repeat (first | refine G.step ?_ | (refine Gs.alloc ?_; intro _) | refine Gs.store ?_))
    rename_i gb
    refine Gs.call0 (made4_ok g xg ra h1 hg hG) ?_
    rintro _ h2 le2 ⟨y, p, rfl, hp, hpv⟩
    have hg2 := hg.mono le2
    have hE2 := hE1.mono le2
    (repeat (first | refine G.step ?_ | (refine Gs.alloc ?_; intro _) | refine Gs.store ?_))
    rename_i pb
    refine Gs.call0 (made4_ok g xg rb h2 hg2 hG) ?_
    rintro _ h3 le3 ⟨y2, p2, rfl, hp2, hpv2⟩
    have hg3 := hg2.mono le3
    have hE3 := hE2.mono le3
    have hp3 := hp.mono le3
    obtain ⟨z1, z2, z3⟩ := hpv.lens
    obtain ⟨y1, y2', y3⟩ := hpv2.lens
    have hl := txt_len p
    (repeat (first | refine G.step ?_ | (refine Gs.alloc ?_; intro _) | refine Gs.store ?_))
    rename_i qb
    refine Gs.callv0 (print_ok xg g y p h3 hE3 hp3 ⟨by omega, by omega, by omega⟩ ⟨by omega, by omega, by omega⟩ (hpv.ok hk2 hr2)) ?_
    have htl : (txt p).length ≤ 19 := by omega
    (repeat (refine G.step ?_))
    refine Gs.call0 (parse_ok g xg (txt p) h3 hE3 hg3 hG (by omega)) ?_
    rintro _ h4 le4 ⟨yb4, q4, e4, rfl, hq4, hr4⟩
    obtain ⟨rfl, rfl⟩ := hr4.uniq hk2 hr2 (.inl ⟨rfl, hpv, rfl⟩)
    have hg4 := hg3.mono le4
    have hE4 := hE3.mono le4
    have hp4 := hp3.mono le4
    have hp24 := hp2.mono le4
    (repeat (first | refine G.step ?_ | (refine Gs.alloc ?_; intro _) | refine Gs.store ?_))
    rename_i kb
    refine G.jnP (fun j => j = .bool false) ?_ ?_
    · rintro j rfl
      refine G.jk ?_; intro _
      (repeat (first | refine G.step ?_ | refine G.iff ?_))
      refine Gs.ldN (rw2_at ra rb (i := 0) (by omega)) ?_
      refine G.conv (by omega) ?_
      (repeat (first | refine G.add (by omega) ?_ | refine G.rem (by omega) ?_ | refine G.step ?_))
      rw [Int.tmod_eq_emod_of_nonneg (by omega)]
      refine Gs.ldN (rw2_at ra rb (i := 1) (by omega)) ?_
      refine G.rem8 (by omega) (by omega) ?_
      refine G.conv (by omega) ?_
      (repeat (first | refine G.step ?_ | refine Gs.dr ?_))
      have hA0 := Int.emod_nonneg ((rb 0).toNat : Int) (show ((txt q4).length : Int) + 1 ≠ 0 by omega)
      have hA1 := Int.emod_lt_of_pos ((rb 0).toNat : Int) (show (0 : Int) < ((txt q4).length : Int) + 1 by omega)
      generalize ((rb 0).toNat : Int) % (((txt q4).length : Int) + 1) = A at *
      rw [wrap_in (by omega)]
      have hB : 0 ≤ min (A + ((rb 1).toNat : Int) % 5) ((txt q4).length : Int) ∧ min (A + ((rb 1).toNat : Int) % 5) ((txt q4).length : Int) ≤ (txt q4).length := by omega
      generalize min (A + ((rb 1).toNat : Int) % 5) ((txt q4).length : Int) = B at *
      refine Gs.qstoX (by omega) ?_
      refine G.qsadd (by simp; omega) ?_
      refine Gs.qsfromX (by omega) ?_
      refine G.qsadd (by simp; omega) ?_
      have hol : ((txt q4).take A.toNat ++ put ++ (txt q4).drop B.toNat).length ≤ 1000 := by simp; omega
      generalize (txt q4).take A.toNat ++ put ++ (txt q4).drop B.toNat = od at *
      (repeat (refine G.step ?_))
      refine Gs.call0 (parse_ok g xg od h4 hE4 hg4 hG hol) ?_
      rintro _ h5 le5 ⟨y5, q5, e5, rfl, hq5, hr5⟩
      have hg5 := hg4.mono le5
      have hE5 := hE4.mono le5
      (repeat (first | refine G.step ?_ | (refine Gs.alloc ?_; intro _) | refine Gs.store ?_))
      rcases hr5 with ⟨rfl, hv5, ht5⟩ | ⟨rfl, rfl, hno⟩
      · (repeat (first | refine G.step ?_ | refine G.iff ?_ | refine G.gdtt ?_))
        obtain ⟨v1, v2, v3⟩ := hv5.lens
        refine Gs.callv0 (rvalid_ok g xg y5 q5 h5 hg5 (by omega) (by omega) (by omega) hq5) ?_
        rw [validP_iff.2 hv5]
        (repeat (first | refine G.step ?_ | refine G.gdtt ?_))
        refine Gs.callv0 (print_ok xg g y5 q5 h5 hE5 hq5 ⟨by omega, by omega, by omega⟩ ⟨by omega, by omega, by omega⟩ (hv5.ok hk2 hr2)) ?_
        (repeat (refine G.step ?_))
        exact Gs.ret (by rw [decide_eq_true ht5])
      · (repeat (first | refine G.step ?_ | refine G.ift ?_ | refine G.gdtt ?_))
        refine Gs.callv0 (equal_ok y5 ((none, 0, 0), (none, 0, 0), (none, 0, 0), 0, 0) zeroP zeroP h5 hq5 (posR_zero _)) ?_
        rw [decide_eq_true rfl]
        (repeat (first | refine G.step ?_ | refine G.gdtt ?_))
        have hne : od ≠ txt q4 := fun e => hno q4 hpv e.symm
        exact Gs.ret (by simp [hne])
    · intro K hK
      (repeat (first | refine Gs.dr ?_ | refine G.qkp ?_ | refine Gs.qkb ?_ | refine G.gdff ?_))
      refine Gs.callv0 (equal_ok yb4 y q4 q4 h4 hq4 hp4) ?_
      rw [decide_eq_true rfl]
      (repeat (first | refine G.qkp ?_ | refine Gs.qkb ?_ | refine G.gdff ?_))
      refine Gs.callv0 (print_ok xg g y2 p2 h4 hE4 hp24 ⟨by omega, by omega, by omega⟩ ⟨by omega, by omega, by omega⟩ (hpv2.ok hk2 hr2)) ?_
      (repeat (first | refine G.qkp ?_ | refine Gs.withb ?_))
      refine Gs.callv0 (equal_ok y y2 q4 p2 h4 hp4 hp24) ?_
      (repeat (first | refine G.qkp ?_ | refine G.withT ?_))
      refine hK _ ?_
      have e : decide (txt p2 = txt q4) = decide (q4 = p2) := by
        rw [decide_eq_decide]
        exact ⟨fun h => txt_inj (hpv.ok hk2 hr2) (hpv2.ok hk2 hr2) h.symm, fun h => by rw [h]⟩
      rw [e]
      simp
end Go.Proofs.YtcmokdokcghooaaGreatDoor
end

section
set_option linter.unusedVariables false
set_option maxRecDepth 100000
namespace Go.Proofs.YtcmokdokcghooaaGreatDoor
open Go Go.Sk Go.Pr Go.Ps Go.RowKit Go.WideShapes Go.ChangeShapes Go.ChangeAt
theorem raw2_open {H : Type} {enc : TypeId × Value → H} {W : World} {base : Nat} {v : Value} {d : DataW H} {p : List MemPlace} (hval : Value.okWide Tryz.prog W .any base 81 v) (h : DataW.Trod enc Tryz.prog W 0 (fun _ => true) true 81 v d p) : ∃ a b, v = vRw2 a b := by
  obtain ⟨cs, rfl, hsz⟩ := okWide_arr Tryz.underlying81 hval
  obtain ⟨fuel, hf⟩ := h
  obtain ⟨l⟩ := cs
  have hl : l.length = 36 := hsz.trans (by kernel_rfl)
  obtain ⟨zs, m', q1, q2, q3, q4, q5⟩ := DataW.trod_array Tryz.underlying81 hf
  have hc : Tryz.prog.cellsOf 30 = 18 := by kernel_rfl
  match zs, q4 with
  | [z0, z1], _ =>
  have i0 := q5 0 (by decide)
  have i1 := q5 1 (by decide)
  rw [hc] at i0 i1
  obtain ⟨a, ea, _⟩ := rw_at (show DataW.trod enc Tryz.prog W 0 (fun _ => true) true m' 30 ((l.drop 0).take 18) = some z0 from i0)
  obtain ⟨b, eb, _⟩ := rw_at (show DataW.trod enc Tryz.prog W 0 (fun _ => true) true m' 30 ((l.drop 18).take 18) = some z1 from i1)
  refine ⟨a, b, ?_⟩
  have e : l = eRw a ++ eRw b := by
    rw [← ea, ← eb, List.drop_zero, List.take_of_length_le (l := l.drop 18) (by rw [List.length_drop]; omega), List.take_append_drop]
  subst e
  rfl
end Go.Proofs.YtcmokdokcghooaaGreatDoor
end

