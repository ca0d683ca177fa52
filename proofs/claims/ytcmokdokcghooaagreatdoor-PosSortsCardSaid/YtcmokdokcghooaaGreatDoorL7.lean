/-
  Lemmas for the proof of the statement of this claim: a part of the road, no statement of its own. Conditions: those that each lemma names.
-/
import Derived.Test.YtcmokdokcghooaaGreatDoorKi
set_option linter.unusedVariables false
set_option maxHeartbeats 4000000
namespace Go.Proofs.YtcmokdokcghooaaGreatDoor
open Go Go.Sk Go.Pr Go.Ps Go.RowKit
theorem rot_mem {ps ts : List Pt} {n : Nat} (hl : ts.length = ps.length) (h : ∀ k (h1 : k < ts.length), ts[k] = ps.getD ((k + n) % ps.length) zeroP) (z : Pt) : z ∈ ts ↔ z ∈ ps := by
  constructor
  · intro hz
    obtain ⟨k, hk, rfl⟩ := List.getElem_of_mem hz
    rw [h k hk]
    have hm : (k + n) % ps.length < ps.length := Nat.mod_lt _ (by omega)
    rw [List.getD_eq_getElem?_getD, List.getElem?_eq_getElem hm]
    exact List.getElem_mem hm
  · intro hz
    obtain ⟨j, hj, rfl⟩ := List.getElem_of_mem hz
    have hpos : 0 < ps.length := by omega
    have hk : (j + (ps.length - n % ps.length)) % ps.length < ts.length := by rw [hl]; exact Nat.mod_lt _ hpos
    have e : ((j + (ps.length - n % ps.length)) % ps.length + n) % ps.length = j := by
      have h1 := Nat.mod_lt n hpos
      rw [Nat.mod_add_mod]
      have h2 : j + (ps.length - n % ps.length) + n = j + ps.length + (n - n % ps.length) := by
        have := Nat.mod_le n ps.length
        omega
      have h3 : n - n % ps.length = ps.length * (n / ps.length) := by
        have := Nat.mod_add_div n ps.length
        omega
      rw [h2, h3, Nat.add_mul_mod_self_left, Nat.add_mod_right, Nat.mod_eq_of_lt hj]
    have := h _ hk
    rw [e, List.getD_eq_getElem?_getD, List.getElem?_eq_getElem hj] at this
    have h5 : ps[j] = ts[(j + (ps.length - n % ps.length)) % ps.length] := this.symm
    rw [h5]
    exact List.getElem_mem hk
theorem sorts_ok (x : RwG) (b0 b1 : List UInt8) (C : List (UInt8 × UInt8 × UInt8)) (rs : List (Nat → UInt8)) (v : Value) (u : Int) (h : Hp) (hE : Env h) (hx : RgR h x b0 b1 C) (hv : RdE h v eRw 18 rs) (hl : rs.length ≤ 9223372036854775807) (hu : 0 ≤ u ∧ u ≤ 255) : Ct Tryz.prog 7 [vRg x, v, .int .u8 u] h (fun _ y => y = .bool true) := by
  refine ct7 ?_
  intro w0
  unfold s7
  obtain ⟨n, rfl⟩ := Int.eq_ofNat_of_zero_le hu.1
  (repeat (refine Gs.box ?_; intro _))
  rename_i xb
  refine Gs.callv0 (sanity_ok h hE) ?_
  (repeat (refine G.step ?_))
  refine Gs.call0 (made3_ok x b0 b1 C h hx) ?_
  rintro _ h1 le1 ⟨xg, g, rfl, hg, hG⟩
  (repeat (first | refine G.step ?_ | (refine Gs.alloc ?_; intro _) | refine Gs.store ?_))
  refine Gs.call0 (many_ok g xg rs v 12 h1 hg hG (hv.mono le1) hl (by decide)) ?_
  rintro v2 h2 le2 ⟨ps, hps, hpl, hpv⟩
  refine Gs.call0 (sort_ok ps v2 h2 hps (by omega)) ?_
  intro v3 h3 le3 r3
  have hps3 : posL h3 v2 ps := RdF.mono le3 hps
  have hsl := sortU_len lin_cmpP ps
  have hsrt := srt_sortU lin_cmpP ps
  have hmem := fun z => mem_sortU lin_cmpP z ps
  generalize sortU cmpP ps = ss at *
  clear hpv hg hps
  refine Gs.buildSlice (by decide) ?_
  intro q0
  refine Gs.lp (β := Nat × Value × List PosH × List Pt) (fun u => (u.2.1, I u.1)) (fun u => h3) (fun u => [.sl u.2.1 44 5 (fl ePos u.2.2.1)]) (fun u => u.1 ≤ ps.length ∧ All2 (posR h3) u.2.2.1 u.2.2.2 ∧ u.2.2.2.length = u.1 ∧ ∀ k (h1 : k < u.2.2.2.length), u.2.2.2[k] = ps.getD ((k + n) % ps.length) zeroP) (fun u => ps.length - u.1) (0, .slice (some ⟨q0, 0, none⟩) 0 0, [], []) rfl ⟨Nat.zero_le _, .nil, rfl, fun k h => by simp at h⟩ (fun _ s => s.sub (by simp [fl])) ?_
  rintro ⟨i, q, ys, ts⟩ ⟨hi, hal, htl, hts⟩ cont hc
  dsimp only at *
  have hyl := hal.len
  (repeat (refine G.jk ?_; intro _))
  refine Gs.lenF hps3 (by omega) ?_
  (repeat (refine G.step ?_))
  refine G.ifd ?_ ?_ <;> intro hlt
  · refine G.conv (by omega) ?_
    refine G.add (by omega) ?_
    refine Gs.lenF hps3 (by omega) ?_
    refine G.rem (by omega) ?_
    have hmm : (i + n) % ps.length < ps.length := Nat.mod_lt _ (by omega)
    rw [Int.tmod_eq_emod_of_nonneg (by omega), show (((i : Int) + (n : Nat)) % (ps.length : Int)) = (((i + n) % ps.length : Nat) : Int) by simp]
    refine Gs.indexF hps3 hmm ?_
    intro b o y hpt hy
    refine Gs.loadE hpt ?_
    refine Gs.buildSlice (by decide) ?_
    intro q1
    refine Gs.appendO (enc := ePos) (l := ys) (m := [y]) (e2 := 44) (by simp [fl]) (by simp; omega) (by simp; omega) ?_
    intro q2
    (repeat (refine G.add (by omega) ?_))
    exact Gs.goS (hc (i + 1, q2, ys ++ [y], ts ++ [ps[(i + n) % ps.length]]) ⟨by dsimp only; omega, hal.snoc hy, by simp [htl], fun k hk => by
      rw [List.getElem_append]
      split
      · exact hts k _
      · simp only [List.length_append, List.length_singleton] at hk
        have : k = i := by omega
        subst this
        rw [List.getD_eq_getElem?_getD, List.getElem?_eq_getElem hmm]
        simp⟩ (by dsimp only; omega)) rfl
  · have hip : i = ps.length := by omega
    clear hc
    have htm := rot_mem (n := n) (by omega : ts.length = ps.length) hts
    refine Gs.freezeE (v := q) (enc := ePos) (l := ys) (by decide) ?_
    intro h4 le4 r4
    have hts4 : posL h4 q ts := ⟨ys, r4, All2.monoR le4 hal⟩
    have hps4 : posL h4 v2 ps := RdF.mono le4 hps3
    have hss4 : posL h4 v3 ss := RdF.mono le4 r3
    refine Gs.buildSlice (by decide) ?_
    intro q5
    refine Gs.appendR (enc := ePos) (l := []) (m := ys) (v := .slice (some ⟨q5, 0, none⟩) 0 0) r4 (by simp; omega) (by simp; omega) ?_
    intro q6
    obtain ⟨zs, rz, az⟩ := hss4
    have hzl := az.len
    refine Gs.appendR (enc := ePos) (l := [] ++ ys) (m := zs) (v := q6) rz (by simp; omega) (by simp; omega) ?_
    intro q7
    refine Gs.freezeE (v := q7) (enc := ePos) (l := [] ++ ys ++ zs) (by decide) ?_
    intro h5 le5 r5
    have hss5 : posL h5 v3 ss := ⟨zs, rz.mono le5, All2.monoR le5 az⟩
    have htw5 : posL h5 q7 (ts ++ ss) := ⟨_, r5, (All2.monoR le5 (All2.monoR le4 hal)).append (All2.monoR le5 az)⟩
    have hts5 : posL h5 q ts := RdF.mono le5 hts4
    have hps5 : posL h5 v2 ps := RdF.mono le5 hps4
    have hpw := List.pairwise_iff_getElem.1 hsrt
    have e1 : sortU cmpP ss = ss := sortU_srt lin_cmpP hsrt
    have e2 : sortU cmpP ts = ss := (sortU_uniq lin_cmpP hsrt fun z => (hmem z).trans (htm z).symm).symm
    have e3 : sortU cmpP (ts ++ ss) = ss := (sortU_uniq lin_cmpP hsrt fun z => by
      rw [List.mem_append, htm z, hmem z]
      exact ⟨fun h => .inl h, fun h => h.elim id id⟩).symm
    clear rz az r5 r4 hts4 hps4 hps3 r3 hal hts htm
    refine Gs.lp (β := Nat) (fun u => I ((u + 1 : Nat) : Int)) (fun u => h5) (fun u => []) (fun u => u ≤ ss.length) (fun u => ss.length - u) 0 rfl (Nat.zero_le _) (fun _ s => s.sub (by simp)) ?_
    intro i hi cont hc
    (repeat (refine G.jk ?_; intro _))
    refine Gs.lenF hss5 (by omega) ?_
    (repeat (refine G.step ?_))
    refine G.ifd ?_ ?_ <;> intro hlt
    · (repeat (first | refine Gs.dr ?_ | refine G.qsub (by omega) ?_))
      rw [show ((i + 1 : Nat) : Int) - 1 = (i : Int) by omega]
      refine Gs.qindexF hss5 (show i < ss.length by omega) ?_
      intro b o y hpt hy
      refine Gs.qloadE hpt ?_
      refine Gs.qindexF hss5 (show i + 1 < ss.length by omega) ?_
      intro b' o' y' hpt' hy'
      refine Gs.qloadE hpt' ?_
      refine Gs.callv0 (cmpP_ok y y' _ _ h5 hy hy') ?_
      rw [hpw i (i + 1) (by omega) (by omega) (by omega)]
      (repeat (first | refine G.add (by omega) ?_ | refine G.qkp ?_ | refine G.iff ?_))
      exact Gs.goS (hc (i + 1) (by omega) (by omega)) rfl
    · clear hc
      refine Gs.lp (β := Nat) (fun u => I u) (fun u => h5) (fun u => []) (fun u => u ≤ ss.length) (fun u => ss.length - u) 0 rfl (Nat.zero_le _) (fun _ s => s) ?_
      intro i hi cont hc
      (repeat (refine G.jk ?_; intro _))
      refine Gs.lenF hss5 (by omega) ?_
      (repeat (refine G.step ?_))
      refine G.ifd ?_ ?_ <;> intro hlt
      · have hi' : i < ss.length := by omega
        refine Gs.indexF hss5 hi' ?_
        intro b o y hpt hy
        refine Gs.loadE hpt ?_
        refine Gs.callv0 (has_ok ps v2 y _ h5 hps5 hy (by omega)) ?_
        rw [decide_eq_true ((hmem _).1 (List.getElem_mem hi'))]
        (repeat (first | refine G.add (by omega) ?_ | refine G.step ?_ | refine G.iff ?_))
        exact Gs.goS (hc (i + 1) (by omega) (by omega)) rfl
      · clear hc
        refine Gs.lp (β := Nat) (fun u => I u) (fun u => h5) (fun u => []) (fun u => u ≤ ps.length) (fun u => ps.length - u) 0 rfl (Nat.zero_le _) (fun _ s => s) ?_
        intro i hi cont hc
        (repeat (refine G.jk ?_; intro _))
        refine Gs.lenF hps5 (by omega) ?_
        (repeat (refine G.step ?_))
        refine G.ifd ?_ ?_ <;> intro hlt
        · have hi' : i < ps.length := by omega
          refine Gs.indexF hps5 hi' ?_
          intro b o y hpt hy
          refine Gs.loadE hpt ?_
          refine Gs.callv0 (has_ok ss v3 y _ h5 hss5 hy (by omega)) ?_
          rw [decide_eq_true ((hmem _).2 (List.getElem_mem hi'))]
          (repeat (first | refine G.add (by omega) ?_ | refine G.step ?_ | refine G.iff ?_))
          exact Gs.goS (hc (i + 1) (by omega) (by omega)) rfl
        · clear hc
          (repeat (refine G.gdtt ?_))
          refine Gs.call0 (sort_ok ss v3 h5 hss5 (by omega)) ?_
          intro w6 h6 le6 r6
          rw [e1] at r6
          have hss6 : posL h6 v3 ss := RdF.mono le6 hss5
          refine Gs.callv0 (lists_ok ss ss w6 v3 h6 r6 hss6 (by omega) (by omega)) ?_
          rw [decide_eq_true rfl]
          (repeat (refine G.gdtt ?_))
          refine Gs.call0 (sort_ok ts q h6 (RdF.mono le6 hts5) (by omega)) ?_
          intro w7 h7 le7 r7
          rw [e2] at r7
          have hss7 : posL h7 v3 ss := RdF.mono le7 hss6
          refine Gs.callv0 (lists_ok ss ss w7 v3 h7 r7 hss7 (by omega) (by omega)) ?_
          rw [decide_eq_true rfl]
          (repeat (refine G.gdtt ?_))
          refine Gs.call0 (sort_ok (ts ++ ss) q7 h7 (RdF.mono le7 (RdF.mono le6 htw5)) (by simp; omega)) ?_
          intro w8 h8 le8 r8
          rw [e3] at r8
          have hss8 : posL h8 v3 ss := RdF.mono le8 hss7
          refine Gs.callv0 (lists_ok ss ss w8 v3 h8 r8 hss8 (by omega) (by omega)) ?_
          exact Gs.ret (by rw [decide_eq_true rfl])
end Go.Proofs.YtcmokdokcghooaaGreatDoor
