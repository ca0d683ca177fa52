/-
  Lemmas for the proof of the statement of this claim: a part of the road, no statement of its own. Conditions: those that each lemma names.
-/
import Derived.Test.YtcmokdokcghooaaGreatDoorKi
set_option linter.unusedVariables false
set_option maxHeartbeats 4000000
namespace Go.Proofs.YtcmokdokcghooaaGreatDoor
open Go Go.Sk Go.Pr Go.Ps Go.RowKit
theorem finds_ok (x : RwG) (b0 b1 : List UInt8) (C : List (UInt8 × UInt8 × UInt8)) (rs : List (Nat → UInt8)) (v : Value) (r : Nat → UInt8) (h : Hp) (hE : Env h) (hx : RgR h x b0 b1 C) (hv : RdE h v eRw 18 rs) (hl : rs.length ≤ 9223372036854775807) : Ct Tryz.prog 8 [vRg x, v, vRw r] h (fun _ y => y = .bool true) := by
  refine ct8 ?_
  intro w0
  unfold s8
  (repeat (refine Gs.box ?_; intro _))
  rename_i xb yb
  refine Gs.callv0 (sanity_ok h hE) ?_
  (repeat (refine G.step ?_))
  refine Gs.call0 (made3_ok x b0 b1 C h hx) ?_
  rintro _ h1 le1 ⟨xg, g, rfl, hg, hG⟩
  (repeat (first | refine G.step ?_ | (refine Gs.alloc ?_; intro _) | refine Gs.store ?_))
  rename_i gb
  refine Gs.call0 (many_ok g xg rs v 14 h1 hg hG (hv.mono le1) hl (by decide)) ?_
  rintro v2 h2 le2 ⟨ps, hps, hpl, hpv⟩
  refine Gs.call0 (rsort_ok ps v2 h2 hps (by omega)) ?_
  intro v3 h3 le3 r3
  have hsl := sortU_len lin_cmpP ps
  have hsrt := srt_sortU lin_cmpP ps
  generalize sortU cmpP ps = ss at *
  have hg3 := (hg.mono le2).mono le3
  refine Gs.lp (β := Nat × Hp) (fun u => I u.1) (fun u => u.2) (fun u => [.blk gb [I g.cells, slv xg.1, slv xg.2.1, slv xg.2.2.1, I g.rights, .bool g.must, slv xg.2.2.2, I g.blocked, I g.endless] 39, .blk yb (eRw r) 30]) (fun u => u.1 ≤ ss.length ∧ Hle h3 u.2) (fun u => ss.length - u.1) (0, h3) rfl ⟨Nat.zero_le _, Hle.refl _⟩ (fun _ s => s.sub (by simp)) ?_
  rintro ⟨i, h4⟩ ⟨hi, le4⟩ cont hc
  dsimp only at *
  have r4 : posL h4 v3 ss := RdF.mono le4 r3
  have hg4 := hg3.mono le4
  (repeat (refine G.jk ?_; intro _))
  refine Gs.lenF r4 (by omega) ?_
  (repeat (refine G.step ?_))
  refine G.ifd ?_ ?_ <;> intro hlt
  · have h1' : i < ss.length := by omega
    refine Gs.indexF r4 h1' ?_
    intro b o y hpt hy
    refine Gs.loadE hpt ?_
    refine Gs.call0 (find3_ok ss v3 y _ h4 r4 (by omega) hy hsrt) ?_
    rintro _ h5 le5 ⟨n, rfl, hn⟩
    obtain rfl : n = i := hn.uniq hsrt (.inl ⟨i, h1', rfl, rfl⟩)
    (repeat (refine G.step ?_))
    refine G.ifn (by simp) ?_
    (repeat (refine G.add (by omega) ?_))
    exact Gs.goS (hc (i + 1, h5) ⟨by dsimp only; omega, le4.trans le5⟩ (by dsimp only; omega)) rfl
  · clear hc
    (repeat (refine G.step ?_))
    refine Gs.call0 (made4_ok g xg r h4 hg4 hG) ?_
    rintro _ h5 le5 ⟨y, p, rfl, hp, hpv'⟩
    have r5 : posL h5 v3 ss := RdF.mono le5 r4
    (repeat (first | refine G.step ?_ | (refine Gs.alloc ?_; intro _) | refine Gs.store ?_))
    rename_i pb
    refine Gs.call0 (find3_ok ss v3 y p h5 r5 (by omega) hp hsrt) ?_
    rintro _ h6 le6 ⟨n, rfl, hn⟩
    have r6 : posL h6 v3 ss := RdF.mono le6 r5
    have hp6 := hp.mono le6
    refine G.jnP (fun j => j = .bool false) ?_ ?_
    · rintro j rfl
      refine G.jk ?_; intro _
      (repeat (first | refine G.step ?_ | refine G.iff ?_ | refine G.gdtt ?_))
      refine Gs.callv0 (has_ok ss v3 y p h6 r6 hp6 (by omega)) ?_
      (repeat (refine G.step ?_))
      have e : decide (0 ≤ n) = decide (p ∈ ss) := by
        rcases hn with ⟨j, hj, rfl, e⟩ | ⟨rfl, hno⟩
        · rw [decide_eq_true (by omega), decide_eq_true (e ▸ List.getElem_mem hj)]
        · rw [decide_eq_false (by decide), decide_eq_false hno]
      refine G.gdy e ?_
      (repeat (refine G.step ?_))
      refine Gs.call0 (find3_ok [] (.slice none 0 0) y p h6 (RdF.nil _ _ _ _) (by decide) hp6 List.Pairwise.nil) ?_
      rintro _ h7 le7 ⟨n', rfl, hn'⟩
      obtain rfl : n' = -1 := by
        rcases hn' with ⟨j, hj, _⟩ | ⟨h, _⟩
        · simp at hj
        · exact h
      (repeat (refine G.step ?_))
      exact Gs.ret rfl
    · intro K hK
      (repeat (first | refine Gs.dr ?_ | refine G.qkp ?_))
      rcases hn with ⟨j, hj, rfl, e⟩ | ⟨rfl, hno⟩
      · refine G.gdyf (by omega) ?_
        refine Gs.qlenF r6 (by omega) ?_
        (repeat (refine G.qkp ?_))
        refine G.gdyf (by omega) ?_
        (repeat (first | refine G.qkp ?_ | refine G.gdtt ?_))
        refine Gs.qindexF r6 hj ?_
        intro b o z hpt hz
        refine Gs.qloadE hpt ?_
        (repeat (refine Gs.qkb ?_))
        refine Gs.callv0 (equal_ok z y _ p h6 hz hp6) ?_
        (repeat (refine G.qkp ?_))
        exact hK _ (by rw [decide_eq_true e]; rfl)
      · (repeat (refine G.gdff ?_))
        refine Gs.qlenF r6 (by omega) ?_
        (repeat (refine G.qkp ?_))
        refine G.gdyf (by omega) ?_
        (repeat (first | refine G.qkp ?_ | refine G.gdft ?_))
        exact hK _ rfl
end Go.Proofs.YtcmokdokcghooaaGreatDoor
