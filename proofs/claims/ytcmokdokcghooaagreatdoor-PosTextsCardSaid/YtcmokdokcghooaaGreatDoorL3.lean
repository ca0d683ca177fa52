/-
  Lemmas for the proof of the statement of this claim: a part of the road, no statement of its own. Conditions: those that each lemma names.
-/
import Derived.Test.YtcmokdokcghooaaGreatDoorKi
set_option linter.unusedVariables false
set_option maxHeartbeats 4000000
namespace Go.Proofs.YtcmokdokcghooaaGreatDoor
open Go Go.Sk Go.Pr Go.Ps Go.RowKit
theorem Gs.qstoX {S : WP} {KQ : WP → Value → WP} {t : TypeId} {k : IntKind} {l : List UInt8} {i : Int} [ht : TStr Tryz.prog t] (hi : 0 ≤ i ∧ i ≤ l.length) (hk : G S (KQ TrueC (Str (l.take i.toNat)))) : G S (Qk Tryz.prog (V (Instr.sliceAt t (Str l) none (some (.int k i)) none)) KQ) :=
  haveI : Yd Tryz.prog TrueC (V (Instr.sliceAt t (Str l) none (some (.int k i)) none)) (Str (l.take i.toNat)) := Yd.of fun w => by
    rw [run_sliceAt ht.spec, run_slice_string_to_if w t _ k i ht.spec, if_pos ⟨hi.1, by simp [ByteArray.size]; omega⟩, ext_take]
  G.qkp hk
theorem Gs.qsfromX {S : WP} {KQ : WP → Value → WP} {t : TypeId} {k : IntKind} {l : List UInt8} {i : Int} [ht : TStr Tryz.prog t] (hi : 0 ≤ i ∧ i ≤ l.length) (hk : G S (KQ TrueC (Str (l.drop i.toNat)))) : G S (Qk Tryz.prog (V (Instr.sliceAt t (Str l) (some (.int k i)) none none)) KQ) :=
  haveI : Yd Tryz.prog TrueC (V (Instr.sliceAt t (Str l) (some (.int k i)) none none)) (Str (l.drop i.toNat)) := Yd.of fun w => by
    rw [run_sliceAt ht.spec, run_slice_string_from_if w t _ k i ht.spec, if_pos ⟨hi.1, by simp [ByteArray.size]; omega⟩, ext_drop]
  G.qkp hk
theorem parses_ok (x : RwG) (b0 b1 : List UInt8) (C : List (UInt8 × UInt8 × UInt8)) (r : Nat → UInt8) (put : List UInt8) (h : Hp) (hE : Env h) (hx : RgR h x b0 b1 C) : Ct Tryz.prog 3 [vRg x, vRw r, Str put] h (fun _ y => y = .bool true) := by
  refine ct3 ?_
  intro w0
  unfold s3
  have f0 := u8lt (r 0)
  have f1 := u8lt (r 1)
  (repeat (refine Gs.box ?_; intro _))
  rename_i xb yb
  refine Gs.callv0 (sanity_ok h hE) ?_
  (repeat (refine G.step ?_))
  refine G.ifd ?_ ?_ <;> intro hput
  · exact Gs.ret rfl
  · (repeat (refine G.step ?_))
    refine Gs.call0 (made3_ok x b0 b1 C h hx) ?_
    rintro _ h1 le1 ⟨xg, g, rfl, hg, hG⟩
    have hE1 := hE.mono le1
    have hk2 := hG.k.l2
    have hr2 := hG.r
    have hc9 := hG.b.c9
    (repeat (first | (refine Gs.alloc ?_; intro _) | refine Gs.store ?_ | refine Gs.dr ?_ | refine Gs.qkb ?_))
    rename_i gb
    refine Gs.call0 (made4_ok g xg r h1 hg hG) ?_
    rintro _ h2 le2 ⟨y, p, rfl, hp, hpv⟩
    have hg2 := hg.mono le2
    have hE2 := hE1.mono le2
    obtain ⟨z1, z2, z3⟩ := hpv.lens
    have hl := txt_len p
    (repeat (refine Gs.withb ?_))
    refine Gs.callv0 (rprint_ok xg g y p h2 hp ⟨by omega, by omega, by omega⟩ (hpv.ok hk2 hr2)) ?_
    have htl : (txt p).length ≤ 19 := by omega
    generalize txt p = s at *
    (repeat (refine G.step ?_))
    refine Gs.ldN (eRw_at r (i := 0) (by omega)) ?_
    refine G.conv (by omega) ?_
    (repeat (first | refine G.add (by omega) ?_ | refine G.rem (by omega) ?_ | refine G.step ?_))
    refine Gs.ldN (eRw_at r (i := 1) (by omega)) ?_
    refine G.rem8 (by omega) (by omega) ?_
    refine G.conv (by omega) ?_
    rw [Int.tmod_eq_emod_of_nonneg (by omega)]
    (repeat (first | refine G.step ?_ | refine Gs.dr ?_))
    have hA0 := Int.emod_nonneg ((r 0).toNat : Int) (show (s.length : Int) + 1 ≠ 0 by omega)
    have hA1 := Int.emod_lt_of_pos ((r 0).toNat : Int) (show (0 : Int) < (s.length : Int) + 1 by omega)
    generalize ((r 0).toNat : Int) % ((s.length : Int) + 1) = A at *
    rw [wrap_in (by omega)]
    have hB : 0 ≤ min (A + ((r 1).toNat : Int) % 5) (s.length : Int) ∧ min (A + ((r 1).toNat : Int) % 5) (s.length : Int) ≤ s.length := by omega
    generalize min (A + ((r 1).toNat : Int) % 5) (s.length : Int) = B at *
    refine Gs.qstoX (by omega) ?_
    refine G.qsadd (by simp; omega) ?_
    refine Gs.qsfromX (by omega) ?_
    refine G.qsadd (by simp; omega) ?_
    refine Gs.qstoX (by omega) ?_
    refine G.qsadd (by omega) ?_
    refine Gs.buildSlice (by decide) ?_
    intro q0
    have hall : ∀ z ∈ [put, s.take A.toNat ++ put ++ s.drop B.toNat, s.take A.toNat, s ++ put], z.length ≤ 1000 := by
      intro z hz
      simp only [List.mem_cons, List.not_mem_nil, or_false] at hz
      rcases hz with rfl | rfl | rfl | rfl <;> first | omega | (simp; omega)
    refine Gs.freezeE (v := .slice (some ⟨q0, 0, none⟩) 4 4) (enc := eStr) (l := [put, s.take A.toNat ++ put ++ s.drop B.toNat, s.take A.toNat, s ++ put]) (by decide) ?_
    intro h3 le3 r3
    have hlen4 : [put, s.take A.toNat ++ put ++ s.drop B.toNat, s.take A.toNat, s ++ put].length = 4 := rfl
    generalize [put, s.take A.toNat ++ put ++ s.drop B.toNat, s.take A.toNat, s ++ put] = ws at *
    have hg3 := hg2.mono le3
    have hE3 := hE2.mono le3
    refine Gs.lp (β := Nat × Hp) (fun u => I u.1) (fun u => u.2) (fun u => [.blk gb [I g.cells, slv xg.1, slv xg.2.1, slv xg.2.2.1, I g.rights, .bool g.must, slv xg.2.2.2, I g.blocked, I g.endless] 39]) (fun u => u.1 ≤ ws.length ∧ Hle h3 u.2) (fun u => ws.length - u.1) (0, h3) rfl ⟨Nat.zero_le _, Hle.refl _⟩ (fun _ s => s.sub (by simp)) ?_
    rintro ⟨i, h4⟩ ⟨hi, le4⟩ cont hc
    dsimp only at *
    have r4 := r3.mono le4
    have hg4 := hg3.mono le4
    have hE4 := hE3.mono le4
    (repeat (refine G.jk ?_; intro _))
    refine Gs.lenE r4 (by omega) ?_
    (repeat (refine G.step ?_))
    refine G.ifd ?_ ?_ <;> intro hlt
    · have hi' : i < ws.length := by omega
      have hwl := hall _ (List.getElem_mem hi')
      refine G.jnk (fun a' S' => ∃ (h5 : Hp) (ab : Nat) (y1 : PosH) (q1 : Pt) (e1 : Int), a' = (ptr ab 0, I e1) ∧ Hle h4 h5 ∧ posR h5 y1 q1 ∧ ParseR g ws[i] q1 e1 ∧ S' = St w0 h h5 [.blk ab (ePos y1) 44, .blk gb [I g.cells, slv xg.1, slv xg.2.1, slv xg.2.2.1, I g.rights, .bool g.must, slv xg.2.2.2, I g.blocked, I g.endless] 39]) ?_ ?_
      · rintro a' _ ⟨h5, ab, y1, q1, e1, rfl, le5, hp1, hr1, rfl⟩
        refine G.jk ?_; intro _
        have r5 := r4.mono le5
        have hg5 := hg4.mono le5
        refine G.jnk (fun a' S' => ∃ (h6 : Hp) (bb : Nat) (y2 : PosH) (q2 : Pt) (e2 : Int), a' = ptr bb 0 ∧ Hle h5 h6 ∧ posR h6 y2 q2 ∧ ParseR g ws[i] q2 e2 ∧ S' = St w0 h h6 [.blk bb [slv y2.1, slv y2.2.1, slv y2.2.2.1, I y2.2.2.2.1, I y2.2.2.2.2, I e2] 51, .blk ab (ePos y1) 44, .blk gb [I g.cells, slv xg.1, slv xg.2.1, slv xg.2.2.1, I g.rights, .bool g.must, slv xg.2.2.2, I g.blocked, I g.endless] 39]) ?_ ?_
        · rintro a' _ ⟨h6, bb, y2, q2, e2, rfl, le6, hp2, hr2', rfl⟩
          refine G.jk ?_; intro _
          obtain ⟨rfl, rfl⟩ := hr1.uniq hk2 hr2 hr2'
          refine G.jnP (fun j => j = .bool false) ?_ ?_
          · rintro j rfl
            refine G.jk ?_; intro _
            (repeat (first | refine G.add (by omega) ?_ | refine G.iff ?_))
            exact Gs.goS (hc (i + 1, h6) ⟨by dsimp only; omega, (le4.trans le5).trans le6⟩ (by dsimp only; omega)) rfl
          · intro K hK
            (repeat (refine G.step ?_))
            refine Gs.callv0 (equal_ok y1 y2 q1 q1 h6 (hp1.mono le6) hp2) ?_
            rw [decide_eq_true rfl]
            (repeat (first | refine G.step ?_ | refine G.gdff ?_))
            exact hK _ (by rw [decide_eq_false (by simp)])
        · intro k41 hk41
          (repeat (first | refine Gs.dr ?_ | refine Gs.qkb ?_))
          refine Gs.qindexE r5 hi' ?_
          intro b o hpt
          refine Gs.qloadE hpt ?_
          refine G.or2 ?_ ?_
          · refine Gs.call0 (rparse_ok g xg ws[i] h5 hg5 hG hwl) ?_
            rintro _ h6 le6 ⟨y2, q2, e2, rfl, hp2, hr2'⟩
            (repeat (refine Gs.alloc ?_; intro _))
            repeat (first | refine G.withT ?_ | refine Gs.withb ?_ | refine Gs.withf le6 ?_)
            (repeat (refine Gs.store ?_))
            exact hk41 _ _ ⟨h6, _, y2, q2, e2, rfl, le6, hp2, hr2', rfl⟩
          · (repeat (refine Gs.alloc ?_; intro _))
            repeat (first | refine G.withT ?_ | refine Gs.withb ?_ | refine Gs.withf (Hle.refl _) ?_)
            refine Gs.call0 (rparse_ok g xg ws[i] h5 hg5 hG hwl) ?_
            rintro _ h6 le6 ⟨y2, q2, e2, rfl, hp2, hr2'⟩
            (repeat (refine Gs.store ?_))
            exact hk41 _ _ ⟨h6, _, y2, q2, e2, rfl, le6, hp2, hr2', rfl⟩
      · intro k40 hk40
        (repeat (first | refine Gs.dr ?_ | refine Gs.qkb ?_))
        refine Gs.qindexE r4 hi' ?_
        intro b o hpt
        refine Gs.qloadE hpt ?_
        refine G.or2 ?_ ?_
        · refine Gs.call0 (parse_ok g xg ws[i] h4 hE4 hg4 hG hwl) ?_
          rintro _ h5 le5 ⟨y1, q1, e1, rfl, hp1, hr1⟩
          (repeat (first | (refine Gs.alloc ?_; intro _) | refine G.qkp ?_ | refine G.withT ?_))
          repeat (first | refine G.withT ?_ | refine Gs.withb ?_ | refine Gs.withf le5 ?_)
          (repeat (first | refine Gs.store ?_ | refine G.withT ?_))
          exact hk40 _ _ ⟨h5, _, y1, q1, e1, rfl, le5, hp1, hr1, rfl⟩
        · (repeat (refine Gs.alloc ?_; intro _))
          repeat (first | refine G.withT ?_ | refine Gs.withb ?_ | refine Gs.withf (Hle.refl _) ?_)
          refine Gs.call0 (parse_ok g xg ws[i] h4 hE4 hg4 hG hwl) ?_
          rintro _ h5 le5 ⟨y1, q1, e1, rfl, hp1, hr1⟩
          (repeat (first | refine Gs.store ?_ | refine G.qkp ?_ | refine G.withT ?_))
          exact hk40 _ _ ⟨h5, _, y1, q1, e1, rfl, le5, hp1, hr1, rfl⟩
    · exact Gs.ret rfl
end Go.Proofs.YtcmokdokcghooaaGreatDoor
