/-
  Lemmas for the proof of the statement of this claim: a part of the road, no statement of its own. Conditions: those that each lemma names.
-/
import Derived.Test.YtcmokdokcghooaaGreatDoorKi
import Derived.Test.YtcmokdokcghooaaGreatDoorL6
section
set_option linter.unusedVariables false
set_option maxHeartbeats 4000000
namespace Go.Proofs.YtcmokdokcghooaaGreatDoor
open Go Go.Sk Go.Pr Go.Ps Go.RowKit
abbrev vPos2 (x y : PosH) : Value := .agg #[slv x.1, slv x.2.1, slv x.2.2.1, I x.2.2.2.1, I x.2.2.2.2, slv y.1, slv y.2.1, slv y.2.2.1, I y.2.2.2.1, I y.2.2.2.2]
instance ix2p0 {S : WP} {b o : Nat} : Yd Tryz.prog S (V (Instr.indexAt 63 (ptr b o) (.int .i64 0))) (ptr b o) := Yd.ixA (sz := 5) (e := 44) (n := 2) ⟨by decide, by decide⟩ rfl
instance ix2p1 {S : WP} {b o c : Nat} [hc : AddN o 5 c] : Yd Tryz.prog S (V (Instr.indexAt 63 (ptr b o) (.int .i64 1))) (ptr b c) := Yd.ixA (sz := 5) (e := 44) (n := 2) ⟨by decide, by decide⟩ hc.ok
theorem match_ok (x : RwG) (b0 b1 : List UInt8) (C : List (UInt8 × UInt8 × UInt8)) (rs : List (Nat → UInt8)) (v : Value) (oa ob : PosH) (pa pb' : Pt) (h : Hp) (hE : Env h) (hx : RgR h x b0 b1 C) (hv : RdE h v eRw 18 rs) (hl : rs.length ≤ 9223372036854775807) (ha : posR h oa pa) (hb : posR h ob pb') (hsa : smallP pa) : Ct Tryz.prog 5 [vRg x, v, vPos2 oa ob] h (fun _ y => y = .bool true) := by
  refine ct5 ?_
  intro w0
  unfold s5
  (repeat (refine Gs.box ?_; intro _))
  rename_i xb ob'
  refine Gs.callv0 (sanity_ok h hE) ?_
  (repeat (refine G.step ?_))
  refine Gs.call0 (made3_ok x b0 b1 C h hx) ?_
  rintro _ h1 le1 ⟨xg, g, rfl, hg, hG⟩
  have hk1 := hG.k.l1
  have hk2 := hG.k.l2
  have hr2 := hG.r
  have hc9 := hG.b.c9
  (repeat (first | refine G.step ?_ | (refine Gs.alloc ?_; intro _) | refine Gs.store ?_))
  rename_i gb
  refine Gs.call0 (many_ok g xg rs v 12 h1 hg hG (hv.mono le1) hl (by decide)) ?_
  rintro v2 h2 le2 ⟨ps, hps, hpl, hpv⟩
  refine Gs.call0 (rsort_ok ps v2 h2 hps (by omega)) ?_
  intro v3 h3 le3 r3
  have hps3 : posL h3 v2 ps := RdF.mono le3 hps
  have hsl := sortU_len lin_cmpP ps
  have hsrt := srt_sortU lin_cmpP ps
  have hsort4 := fun hh (hq : posL hh v2 ps) => sort_ok ps v2 hh hq (by omega)
  generalize sortU cmpP ps = ss at *
  have hle3 := (le1.trans le2).trans le3
  have hg3 := (hg.mono le2).mono le3
  have ha3 := ha.mono hle3
  have hb3 := hb.mono hle3
  have hE3 := hE.mono hle3
  refine G.jnk (fun j S' => ∃ h4, Hle h3 h4 ∧ j = .bool false ∧ S' = St w0 h h4 [.blk gb [I g.cells, slv xg.1, slv xg.2.1, slv xg.2.2.1, I g.rights, .bool g.must, slv xg.2.2.2, I g.blocked, I g.endless] 39]) ?_ ?_
  · rintro _ _ ⟨h4, le4, rfl, rfl⟩
    refine G.jk ?_; intro _
    (repeat (refine G.iff ?_))
    have hps4 : posL h4 v2 ps := RdF.mono le4 hps3
    have hss4 : posL h4 v3 ss := RdF.mono le4 r3
    have hg4 := hg3.mono le4
    have hE4 := hE3.mono le4
    refine Gs.lp (β := Nat × Hp) (fun u => I u.1) (fun u => u.2) (fun _ => [.blk gb [I g.cells, slv xg.1, slv xg.2.1, slv xg.2.2.1, I g.rights, .bool g.must, slv xg.2.2.2, I g.blocked, I g.endless] 39]) (fun u => u.1 ≤ ps.length ∧ Hle h4 u.2) (fun u => ps.length - u.1) (0, h4) rfl ⟨Nat.zero_le _, Hle.refl _⟩ (fun _ s => s) ?_
    rintro ⟨i, h5⟩ ⟨hi, le5⟩ cont hc
    dsimp only at *
    have hps5 : posL h5 v2 ps := RdF.mono le5 hps4
    have hss5 : posL h5 v3 ss := RdF.mono le5 hss4
    have hg5 := hg4.mono le5
    have hE5 := hE4.mono le5
    (repeat (refine G.jk ?_; intro _))
    refine Gs.lenF hps5 (by omega) ?_
    (repeat (refine G.step ?_))
    refine G.ifd ?_ ?_ <;> intro hlt
    · have hi' : i < ps.length := by omega
      have hv5 := hpv _ (List.getElem_mem hi')
      refine Gs.indexF hps5 hi' ?_
      intro b o y hpt hy
      refine Gs.loadE hpt ?_
      have h0 : 0 < ps.length := by omega
      generalize hpe : ps[i] = p at *
      have hbd : ∀ n ∈ p.c, n ≤ 2 * g.kinds.length ∧ -1 ≤ n := fun n hn => by have := hv5.cc n hn; omega
      obtain ⟨z1, z2, z3⟩ := hv5.lens
      (repeat (first | (refine Gs.alloc ?_; intro _) | refine Gs.store ?_))
      rename_i pb
      refine G.jnk (fun j S' => ∃ h6, Hle h5 h6 ∧ j = .bool false ∧ S' = St w0 h h6 [.blk pb [slv y.1, slv y.2.1, slv y.2.2.1, I y.2.2.2.1, I y.2.2.2.2] 44, .blk gb [I g.cells, slv xg.1, slv xg.2.1, slv xg.2.2.1, I g.rights, .bool g.must, slv xg.2.2.2, I g.blocked, I g.endless] 39]) ?_ ?_
      · rintro _ _ ⟨h6, le6, rfl, rfl⟩
        refine G.jk ?_; intro _
        (repeat (refine G.iff ?_))
        refine Gs.lp (β := Nat × Hp) (fun u => I ((u.1 : Int) - 1)) (fun u => u.2) (fun _ => [.blk pb [slv y.1, slv y.2.1, slv y.2.2.1, I y.2.2.2.1, I y.2.2.2.2] 44, .blk gb [I g.cells, slv xg.1, slv xg.2.1, slv xg.2.2.1, I g.rights, .bool g.must, slv xg.2.2.2, I g.blocked, I g.endless] 39]) (fun u => u.1 ≤ 4 ∧ Hle h6 u.2) (fun u => 4 - u.1) (0, h6) rfl ⟨Nat.zero_le _, Hle.refl _⟩ (fun _ s => s) ?_
        rintro ⟨k, h7⟩ ⟨hk, le7⟩ cont2 hc2
        dsimp only at *
        have hg7 := (hg5.mono le6).mono le7
        have hy7 := (hy.mono le6).mono le7
        (repeat (first | refine G.step ?_ | (refine G.jk ?_; intro _)))
        refine G.ifd ?_ ?_ <;> intro hklt
        · (repeat (first | refine Gs.dr ?_ | refine Gs.qkb ?_))
          refine Gs.call0 (pcount_ok g xg y p ((k : Int) - 1) h7 hg7 (by omega) hy7 hbd) ?_
          intro v8 h8 le8 r8
          (repeat (refine Gs.withb ?_))
          refine Gs.call0 (rpcount_ok g xg y p ((k : Int) - 1) h8 (hg7.mono le8) (by omega) (hy7.mono le8) hbd) ?_
          intro v9 h9 le9 r9
          have d0 := counts_len p.c g.kinds.length ((k : Int) - 1)
          refine Gs.callv0 (ints_ok _ _ v8 v9 h9 (r8.mono le9) r9 (by omega) (by omega)) ?_
          rw [decide_eq_true rfl]
          (repeat (first | refine G.add (by omega) ?_ | refine G.qkp ?_ | refine G.iff ?_))
          refine Gs.goS (hc2 (k + 1, h9) ⟨by dsimp only; omega, (le7.trans le8).trans le9⟩ (by dsimp only; omega)) ?_
          congr 1
          show (k : Int) - 1 + 1 = ((k + 1 : Nat) : Int) - 1
          omega
        · (repeat (refine G.add (by omega) ?_))
          exact Gs.goS (hc (i + 1, h7) ⟨by dsimp only; omega, (le5.trans le6).trans le7⟩ (by dsimp only; omega)) rfl
      · intro k19 hk19
        (repeat (first | refine Gs.dr ?_ | refine Gs.qkb ?_))
        refine Gs.call0 (find3_ok ss v3 y p h5 hss5 (by omega) hy hsrt) ?_
        rintro _ h6 le6 ⟨n, rfl, hn⟩
        (repeat (refine Gs.withb ?_))
        refine Gs.call0 (rfind_ok ss v3 y p h6 (RdF.mono le6 hss5) (by omega) (hy.mono le6) hsrt) ?_
        rintro _ h7 le7 ⟨n', rfl, hn'⟩
        obtain rfl := hn.uniq hsrt hn'
        have hy7 := (hy.mono le6).mono le7
        have hg7 := (hg5.mono le6).mono le7
        have hE7 := (hE5.mono le6).mono le7
        have hps7 : posL h7 v2 ps := RdF.mono le7 (RdF.mono le6 hps5)
        (repeat (refine G.qkp ?_))
        refine G.gdyf (by simp) ?_
        (repeat (refine Gs.qkb ?_))
        refine Gs.callv0 (key_ok y p h7 hy7 ⟨by omega, by omega, by omega⟩) ?_
        (repeat (refine Gs.withb ?_))
        refine Gs.callv0 (rkey_ok y p h7 hy7 ⟨by omega, by omega, by omega⟩) ?_
        (repeat (refine G.qkp ?_))
        refine G.gdyf (by simp) ?_
        (repeat (refine Gs.qkb ?_))
        refine Gs.callv0 (print_ok xg g y p h7 hE7 hy7 ⟨by omega, by omega, by omega⟩ ⟨by omega, by omega, by omega⟩ (hv5.ok hk2 hr2)) ?_
        (repeat (refine Gs.withb ?_))
        refine Gs.callv0 (rprint_ok xg g y p h7 hy7 ⟨by omega, by omega, by omega⟩ (hv5.ok hk2 hr2)) ?_
        (repeat (refine G.qkp ?_))
        refine G.gdyf (by simp) ?_
        (repeat (refine Gs.qkb ?_))
        refine Gs.callv0 (pvalid_ok g xg y p h7 hg7 (by omega) (by omega) (by omega) hy7) ?_
        rw [validP_iff.2 hv5]
        (repeat (first | refine G.qkp ?_ | refine Gs.qkb ?_ | refine G.gdff ?_))
        refine Gs.qindexF (i := 0) hps7 h0 ?_
        intro b1 o1 y1 hpt1 hy1
        refine Gs.qloadE hpt1 ?_
        (repeat (refine Gs.qkb ?_))
        refine Gs.qindexF (i := 0) hps7 h0 ?_
        intro b2 o2 y2 hpt2 hy2
        refine Gs.qloadE hpt2 ?_
        refine Gs.callv0 (cmpP_ok y y1 p _ h7 hy7 hy1) ?_
        repeat (first | refine G.withT ?_ | refine Gs.withb ?_ | refine Gs.withf (Hle.refl _) ?_)
        refine Gs.callv0 (rcmpP_ok y y2 p _ h7 hy7 hy2) ?_
        (repeat (refine G.qkp ?_))
        exact hk19 _ _ ⟨h7, le6.trans le7, by simp, rfl⟩
    · exact Gs.ret rfl
  · intro k' hk'
    refine Gs.dr ?_
    refine Gs.call0 (hsort4 h3 hps3) ?_
    intro v4 h4 le4 r4
    have r34 : posL h4 v3 _ := RdF.mono le4 r3
    have ha4 := ha3.mono le4
    have hb4 := hb3.mono le4
    have hg4 := hg3.mono le4
    refine Gs.callv0 (lists_ok _ _ v4 v3 h4 r4 r34 (by omega) (by omega)) ?_
    rw [decide_eq_true rfl]
    (repeat (first | refine G.qkp ?_ | refine Gs.qkb ?_ | refine G.gdff ?_))
    refine Gs.callv0 (cmpP_ok oa ob pa pb' h4 ha4 hb4) ?_
    (repeat (first | refine G.withT ?_ | refine Gs.withb ?_))
    refine Gs.callv0 (rcmpP_ok oa ob pa pb' h4 ha4 hb4) ?_
    (repeat (refine G.qkp ?_))
    refine G.gdyf (by simp) ?_
    (repeat (first | refine G.qkp ?_ | refine Gs.qkb ?_))
    refine Gs.callv0 (key_ok oa pa h4 ha4 hsa) ?_
    (repeat (first | refine G.withT ?_ | refine Gs.withb ?_))
    refine Gs.callv0 (rkey_ok oa pa h4 ha4 hsa) ?_
    (repeat (refine G.qkp ?_))
    refine G.gdyf (by simp) ?_
    (repeat (first | refine G.qkp ?_ | refine Gs.qkb ?_))
    refine Gs.callv0 (pvalid_ok g xg oa pa h4 hg4 (by omega) (by omega) (by omega) ha4) ?_
    (repeat (first | refine G.withT ?_ | refine Gs.withb ?_))
    refine Gs.callv0 (rvalid_ok g xg oa pa h4 hg4 (by omega) (by omega) (by omega) ha4) ?_
    (repeat (refine G.qkp ?_))
    refine Gs.sel (L' := [.blk gb [I g.cells, slv xg.1, slv xg.2.1, slv xg.2.2.1, I g.rights, .bool g.must, slv xg.2.2.2, I g.blocked, I g.endless] 39]) ?_
    refine hk' _ _ ⟨h4, le4, by simp, rfl⟩
end Go.Proofs.YtcmokdokcghooaaGreatDoor
end

section
set_option linter.unusedVariables false
set_option maxRecDepth 100000
namespace Go.Proofs.YtcmokdokcghooaaGreatDoor
open Go Go.Sk Go.Pr Go.Ps Go.RowKit Go.WideShapes Go.ChangeShapes Go.ChangeAt
open Rows (uptoBulk uptoBulkAll)
section
variable {H : Type} {enc : TypeId × Value → H} {W : World} {base : Nat} {v : Value} {d : DataW H} {p : List MemPlace}
theorem bulk_pos (d : DataW H) : 1 ≤ uptoBulk d := by
  cases d with
  | lit l => cases l <;> simp [uptoBulk]
  | _ => simp [uptoBulk]
theorem bulkAll_len : ∀ l : List (DataW H), l.length ≤ uptoBulkAll l
  | [] => by simp [uptoBulkAll]
  | d :: r => by
    have := bulk_pos d
    have := bulkAll_len r
    simp only [uptoBulkAll, List.length_cons]
    omega
theorem rd_len {l : List Int} {a : Option Addr} {n c : Nat} {h : Hp} (r : RdE h (.slice a n c) eInt 1 l) : l.length = n := by
  obtain ⟨_, a', c', e, _⟩ := r
  injection e with _ e2 _
  exact e2.symm
theorem intl_bulk {n : Nat} {x : DataW H × List MemPlace} (h : DataW.trod enc Tryz.prog W 0 (fun _ => true) true n 33 [v] = some x) : ∃ l : List Int, RdE (World.hp W) v eInt 1 l ∧ l.length ≤ uptoBulk x.1 := by
  obtain ⟨l, r, _⟩ := intl_at h
  refine ⟨l, r, ?_⟩
  rcases Go.Deep.open_slice Tryz.underlying33 h with ⟨e, _⟩ | ⟨a, len, cap, m, n', D, Pl, e, _, _, _, _, hx, _⟩
  · simp only [List.cons.injEq, and_true] at e
    subst e
    rw [rd_len r]
    exact Nat.zero_le _
  · simp only [List.cons.injEq, and_true] at e
    subst e
    rw [rd_len r, hx]
    have := bulkAll_len ((List.range len).map D)
    simp only [List.length_map, List.length_range] at this
    simp only [uptoBulk]
    omega
theorem pos_bulk {n : Nat} {cs : List Value} {x : DataW H × List MemPlace} (h : DataW.trod enc Tryz.prog W 0 (fun _ => true) true n 44 cs = some x) : ∃ (y : PosH) (q : Pt), cs = ePos y ∧ posW (World.hp W) y q ∧ q.c.length ≤ uptoBulk x.1 ∧ q.a.length ≤ uptoBulk x.1 ∧ q.b.length ≤ uptoBulk x.1 := by
  obtain ⟨y, q, rfl, hw⟩ := pos_at h
  refine ⟨y, q, rfl, hw, ?_⟩
  obtain ⟨y0, y1, y2, y3, m, hx, hl, h0, h1, h2, h3⟩ := Joins.trod_struct4 Tryz.underlying44 h
  have h0 : DataW.trod enc Tryz.prog W 0 (fun _ => true) true m 33 (((ePos y).drop 0).take (Tryz.prog.cellsOf 33)) = some y0 := h0
  have h1 : DataW.trod enc Tryz.prog W 0 (fun _ => true) true m 42 (((ePos y).drop 1).take (Tryz.prog.cellsOf 42)) = some y1 := h1
  rw [show Tryz.prog.cellsOf 33 = 1 by kernel_rfl] at h0
  rw [show Tryz.prog.cellsOf 42 = 2 by kernel_rfl] at h1
  obtain ⟨lc, rc, nc⟩ := intl_bulk (show DataW.trod enc Tryz.prog W 0 (fun _ => true) true m 33 [slv y.1] = some y0 from h0)
  obtain ⟨zs, m', q1, q2, q3, q4, q5⟩ := DataW.trod_array Tryz.underlying42 (show DataW.trod enc Tryz.prog W 0 (fun _ => true) true m 42 [slv y.2.1, slv y.2.2.1] = some y1 from h1)
  have hc : Tryz.prog.cellsOf 33 = 1 := by kernel_rfl
  match zs, q4 with
  | [z0, z1], _ =>
  have i0 := q5 0 (by decide)
  have i1 := q5 1 (by decide)
  rw [hc] at i0 i1
  obtain ⟨la, ra, na⟩ := intl_bulk (show DataW.trod enc Tryz.prog W 0 (fun _ => true) true m' 33 [slv y.2.1] = some z0 from i0)
  obtain ⟨lb, rb, nb⟩ := intl_bulk (show DataW.trod enc Tryz.prog W 0 (fun _ => true) true m' 33 [slv y.2.2.1] = some z1 from i1)
  have e0 : q.c.length = lc.length := (rd_len hw.c).trans (rd_len rc).symm
  have e1 : q.a.length = la.length := (rd_len hw.a).trans (rd_len ra).symm
  have e2 : q.b.length = lb.length := (rd_len hw.b).trans (rd_len rb).symm
  rw [e0, e1, e2, hx]
  rw [q2] at *
  simp only [uptoBulk, uptoBulkAll, List.map] at *
  omega
theorem pos2_open (hval : Value.okWide Tryz.prog W .any base 63 v) (h : DataW.Trod enc Tryz.prog W 0 (fun _ => true) true 63 v d p) (hb : uptoBulk d ≤ 1048576) : ∃ y z q r, v = vPos2 y z ∧ posR (World.hp W) y q ∧ posR (World.hp W) z r ∧ smallP q := by
  obtain ⟨cs, rfl, hsz⟩ := okWide_arr Tryz.underlying63 hval
  obtain ⟨fuel, hf⟩ := h
  obtain ⟨l⟩ := cs
  have hl : l.length = 10 := hsz.trans (by kernel_rfl)
  obtain ⟨zs, m', q1, q2, q3, q4, q5⟩ := DataW.trod_array Tryz.underlying63 hf
  have hc : Tryz.prog.cellsOf 44 = 5 := by kernel_rfl
  match zs, q4 with
  | [z0, z1], _ =>
  have i0 := q5 0 (by decide)
  have i1 := q5 1 (by decide)
  rw [hc] at i0 i1
  obtain ⟨y, q, ea, hq, b1, b2, b3⟩ := pos_bulk (show DataW.trod enc Tryz.prog W 0 (fun _ => true) true m' 44 ((l.drop 0).take 5) = some z0 from i0)
  obtain ⟨z, r, eb, hr, c1, c2, c3⟩ := pos_bulk (show DataW.trod enc Tryz.prog W 0 (fun _ => true) true m' 44 ((l.drop 5).take 5) = some z1 from i1)
  have e : l = ePos y ++ ePos z := by
    rw [← ea, ← eb, List.drop_zero, List.take_of_length_le (l := l.drop 5) (by rw [List.length_drop]; omega), List.take_append_drop]
  subst e
  have hd : d = .agg [z0.1, z1.1] := congrArg Prod.fst q2
  rw [hd] at hb
  simp only [uptoBulk, uptoBulkAll] at hb
  exact ⟨y, z, q, r, rfl, ⟨hq.c, hq.a, hq.b, hq.r, hq.s, by omega, by omega, by omega⟩, ⟨hr.c, hr.a, hr.b, hr.r, hr.s, by omega, by omega, by omega⟩, ⟨by omega, by omega, by omega⟩⟩
end
end Go.Proofs.YtcmokdokcghooaaGreatDoor
end

