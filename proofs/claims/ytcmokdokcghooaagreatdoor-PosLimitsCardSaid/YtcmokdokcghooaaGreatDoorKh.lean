/-
  Lemmas for the proof of the statement of this claim: a part of the road, no statement of its own. Conditions: those that each lemma names.
-/
import Derived.Test.YtcmokdokcghooaaGreatDoorKe
import Derived.Test.YtcmokdokcghooaaGreatDoorKg
import Derived.Test.YtcmokdokcghooaaGreatDoorKc
section
set_option linter.unusedVariables false
set_option maxHeartbeats 8000000
namespace Go.Proofs.YtcmokdokcghooaaGreatDoor
open Go Go.Sk Go.Pr Go.Ps Go.RowKit
variable {w0 : World} {h0 h : Hp} {L : List Itm} {K : Value → WP}
abbrev vBd (n : Nat) (a b : SlH) : Value := .agg #[I n, slv a, slv b]
structure BdR (h : Hp) (a b : SlH) (n : Nat) (next : List (List Int)) (turn : List Int) : Prop where
  rn : RdF h (slv a) eSlH 1 intsR next
  rt : RdE h (slv b) eInt 1 turn
  g : GoodB n next turn
theorem BdR.mono {h h' : Hp} {a b : SlH} {n : Nat} {next : List (List Int)} {turn : List Int} (hle : Hle h h') (hr : BdR h a b n next turn) : BdR h' a b n next turn := ⟨hr.rn.mono hle, hr.rt.mono hle, hr.g⟩
def BdPost (n : Nat) (h' : Hp) (v : Value) : Prop := ∃ a b next turn, v = .tuple #[vBd n a b, I 0] ∧ BdR h' a b n next turn
theorem grid_bd {x y w h : Int} (hw : 1 ≤ w ∧ w ≤ 3) (hh : 1 ≤ h ∧ h ≤ 3) (hx : 0 ≤ x ∧ x < w) (hy : 0 ≤ y ∧ y < h) : 0 ≤ y * w + x ∧ y * w + x < w * h ∧ 0 ≤ y * w ∧ y * w ≤ 9 := by
  have h1 : w = 1 ∨ w = 2 ∨ w = 3 := by omega
  have h2 : h = 1 ∨ h = 2 ∨ h = 3 := by omega
  rcases h1 with rfl | rfl | rfl <;> rcases h2 with rfl | rfl | rfl <;> omega
def dxL : List Int := [0, 1, 1, 1, 0, -1, -1, -1]
def dyL : List Int := [-1, -1, 0, 1, 1, 1, 0, -1]
def turnL : List Int := [4, 5, 6, 7, 0, 1, 2, 3]
theorem dx_bd {d : Nat} (hd : d < dxL.length) : -1 ≤ dxL[d] ∧ dxL[d] ≤ 1 := by
  have : ∀ n ∈ dxL, -1 ≤ n ∧ n ≤ 1 := by decide
  exact this _ (List.getElem_mem hd)
theorem dy_bd {d : Nat} (hd : d < dyL.length) : -1 ≤ dyL[d] ∧ dyL[d] ≤ 1 := by
  have : ∀ n ∈ dyL, -1 ≤ n ∧ n ≤ 1 := by decide
  exact this _ (List.getElem_mem hd)
theorem turn_at {d : Nat} (hd : d < 8) : turnL.take (d + 1) = turnL.take d ++ [((d : Int) + 4) % 8] := by
  have : d = 0 ∨ d = 1 ∨ d = 2 ∨ d = 3 ∨ d = 4 ∨ d = 5 ∨ d = 6 ∨ d = 7 := by omega
  rcases this with rfl | rfl | rfl | rfl | rfl | rfl | rfl | rfl <;> rfl
theorem good_turn {n : Nat} {next : List (List Int)} (h1 : 1 ≤ n) (h9 : n ≤ 9) (hl : next.length = 8) (hr : ∀ l ∈ next, l.length = n ∧ ∀ c ∈ l, -1 ≤ c ∧ c < n) : GoodB n next turnL where
  c1 := h1
  c9 := h9
  d1 := by omega
  d8 := by omega
  tl := by rw [hl]; rfl
  rl := fun l hm => (hr l hm).1
  rc := fun l hm => (hr l hm).2
  t0 := fun d hd => by
    have : ∀ n ∈ turnL, 0 ≤ n ∧ n < 8 := by decide
    have := this _ (List.getElem_mem hd)
    omega
  tt := fun d hd => by
    have hd' : d < 8 := hd
    have : d = 0 ∨ d = 1 ∨ d = 2 ∨ d = 3 ∨ d = 4 ∨ d = 5 ∨ d = 6 ∨ d = 7 := by omega
    rcases this with rfl | rfl | rfl | rfl | rfl | rfl | rfl | rfl <;> rfl
theorem grid_ok (w hh : Nat) (hw : 1 ≤ w ∧ w ≤ 3) (hh3 : 1 ≤ hh ∧ hh ≤ 3) (h : Hp) : Ct Tryz.prog 71 [I w, I hh] h (fun h' v => BdPost (w * hh) h' v) := by
  refine ct71 ?_
  intro w0
  unfold s71
  obtain ⟨N, hN⟩ : ∃ N : Nat, w * hh = N := ⟨_, rfl⟩
  have hNi : (w : Int) * hh = N := by rw [← hN]; simp
  have hN9 : 1 ≤ N ∧ N ≤ 9 := by
    have h1 : w = 1 ∨ w = 2 ∨ w = 3 := by omega
    have h2 : hh = 1 ∨ hh = 2 ∨ hh = 3 := by omega
    rw [← hN]
    rcases h1 with rfl | rfl | rfl <;> rcases h2 with rfl | rfl | rfl <;> omega
  rw [hN]
  (repeat (refine Gs.alloc ?_; intro _))
  rename_i tb
  refine G.jnP (fun j => j = .bool false) ?_ ?_
  · rintro j rfl
    refine G.jk ?_; intro _
    (repeat (refine G.iff ?_))
    refine Gs.buildSlice (by decide) ?_
    intro q0
    refine Gs.buildSlice (by decide) ?_
    intro q1
    refine Gs.freezeE (v := .slice (some ⟨q0, 0, none⟩) 8 8) (enc := eInt) (l := dxL) (by decide) ?_
    intro h1 hle1 rx
    refine Gs.freezeE (v := .slice (some ⟨q1, 0, none⟩) 8 8) (enc := eInt) (l := dyL) (by decide) ?_
    intro h2 hle2 ry
    have rx := rx.mono hle2
    refine G.mul (by rw [hNi]; omega) ?_
    rw [hNi]
    (repeat (first | refine G.step ?_ | (refine Gs.alloc ?_; intro _) | refine Gs.store ?_))
    rename_i bb
    refine Gs.nilsl 33 1 ?_
    refine Gs.nilsl 3 1 ?_
    refine Gs.sel (L' := [.blk bb [I N, .slice none 0 0, .slice none 0 0] 35, .sl (.slice none 0 0) 33 1 [], .sl (.slice none 0 0) 3 1 [], .blk tb [I 0, .slice none 0 0, .slice none 0 0] 35]) ?_
    refine Gs.lp (β := Nat × SlH × List SlH × List (List Int) × SlH × Hp) (fun u => I u.1) (fun u => u.2.2.2.2.2) (fun u => [.blk bb [I N, slv u.2.1, slv u.2.2.2.2.1] 35, .sl (slv u.2.1) 33 1 (fl eSlH u.2.2.1), .sl (slv u.2.2.2.2.1) 3 1 (fl eInt (turnL.take u.1)), .blk tb [I 0, .slice none 0 0, .slice none 0 0] 35]) (fun u => u.1 ≤ 8 ∧ Hle h2 u.2.2.2.2.2 ∧ All2 (intsR u.2.2.2.2.2) u.2.2.1 u.2.2.2.1 ∧ u.2.2.2.1.length = u.1 ∧ ∀ l ∈ u.2.2.2.1, l.length = N ∧ ∀ c ∈ l, -1 ≤ c ∧ c < N) (fun u => 8 - u.1) (0, (none, 0, 0), [], [], (none, 0, 0), h2) rfl ⟨Nat.zero_le _, Hle.refl _, .nil, rfl, fun l hl => by simp at hl⟩ (fun _ s => s) ?_
    rintro ⟨d, qn, hs, ns, qt, h3⟩ ⟨hd, hle3, hal, hnl, hns⟩ cont hc
    dsimp only at *
    have hhl := hal.len
    have rx3 := rx.mono hle3
    have ry3 := ry.mono hle3
    (repeat (first | refine G.step ?_ | (refine G.jk ?_; intro _)))
    refine G.ifd ?_ ?_ <;> intro hlt
    · refine Gs.buildSlice (by decide) ?_
      intro q2
      have hdx : d < dxL.length := by show d < 8; omega
      have hdy : d < dyL.length := by show d < 8; omega
      have bx := dx_bd hdx
      have by_ := dy_bd hdy
      refine Gs.lp (β := Nat × Value × List Int) (fun u => (u.2.1, I u.1)) (fun _ => h3) (fun u => [.sl u.2.1 3 1 (fl eInt u.2.2), .blk bb [I N, slv qn, slv qt] 35, .sl (slv qn) 33 1 (fl eSlH hs), .sl (slv qt) 3 1 (fl eInt (turnL.take d)), .blk tb [I 0, .slice none 0 0, .slice none 0 0] 35]) (fun u => u.1 ≤ N ∧ u.2.2.length = u.1 ∧ ∀ c ∈ u.2.2, -1 ≤ c ∧ c < N) (fun u => N - u.1) (0, .slice (some ⟨q2, 0, none⟩) 0 0, []) rfl ⟨Nat.zero_le _, rfl, fun l hl => by simp at hl⟩ (fun _ s => s) ?_
      rintro ⟨c, q, l⟩ ⟨hcN, hll, hlb⟩ cont2 hc2
      dsimp only at *
      (repeat (first | refine G.mul (by omega) ?_ | refine G.step ?_ | (refine G.jk ?_; intro _)))
      rw [hNi]
      refine G.ifd ?_ ?_ <;> intro hlt2
      · have hm0 := Int.emod_nonneg (c : Int) (show (w : Int) ≠ 0 by omega)
        have hm1 := Int.emod_lt_of_pos (c : Int) (show (0 : Int) < w by omega)
        have hq0 : 0 ≤ (c : Int) / w := Int.ediv_nonneg (by omega) (by omega)
        have hq1 : (c : Int) / w ≤ c := Int.ediv_le_self _ (by omega)
        (repeat (refine Gs.dr ?_))
        refine G.qremN (by omega) (by omega) ?_
        refine Gs.qindexE rx3 hdx ?_
        intro b o hp
        refine Gs.qloadE hp ?_
        generalize (c : Int) % w = cm at *
        generalize dxL[d] = ax at *
        (repeat (first | refine Gs.dr ?_ | refine G.qadd (by omega) ?_))
        refine G.qquoN (by omega) (by omega) ?_
        refine Gs.qindexE ry3 hdy ?_
        intro b' o' hp'
        refine Gs.qloadE hp' ?_
        generalize (c : Int) / w = cq at *
        generalize dyL[d] = ay at *
        (repeat (refine G.qadd (by omega) ?_))
        refine G.jnP (fun j => ∃ t : Int, j = I t ∧ -1 ≤ t ∧ t < N) ?_ ?_
        · rintro j ⟨t, rfl, ht⟩
          refine G.jk ?_; intro _
          refine Gs.buildSlice (by decide) ?_
          intro q3
          refine Gs.appendO (enc := eInt) (l := l) (m := [t]) (e2 := 3) (by simp [fl]) (by simp; omega) (by simp; omega) ?_
          intro q4
          (repeat (refine G.add (by omega) ?_))
          exact Gs.goS (hc2 (c + 1, q4, l ++ [t]) ⟨by dsimp only; omega, by simp [hll], fun n hn => by
            rcases List.mem_append.1 hn with hn | hn
            · exact hlb n hn
            · rw [List.mem_singleton.1 hn]; exact ht⟩ (by dsimp only; omega)) rfl
        · intro K hK
          refine G.jnP (fun j => j = .bool (decide ((0 ≤ cm + ax ∧ cm + ax < w) ∧ 0 ≤ cq + ay ∧ cq + ay < hh))) ?_ ?_
          · rintro j rfl
            refine G.jk ?_; intro _
            refine G.ifd ?_ ?_ <;> intro hin
            · have hg := grid_bd (w := w) (h := hh) (by omega) (by omega) hin.1 hin.2
              rw [hNi] at hg
              refine G.mul (by omega) ?_
              refine G.add (by omega) ?_
              exact hK _ ⟨_, rfl, by omega, by omega⟩
            · exact hK _ ⟨-1, rfl, by omega, by omega⟩
          · intro K' hK'
            (repeat (refine G.step ?_))
            refine G.gddt ?_ ?_ <;> intro g1
            · (repeat (refine G.step ?_))
              refine G.gddt ?_ ?_ <;> intro g2
              · (repeat (refine G.step ?_))
                refine G.gddt ?_ ?_ <;> intro g3
                · (repeat (refine G.step ?_))
                  exact hK' _ (by congr 1; rw [decide_eq_decide]; omega)
                · exact hK' _ (by rw [decide_eq_false (by omega)])
              · exact hK' _ (by rw [decide_eq_false (by omega)])
            · exact hK' _ (by rw [decide_eq_false (by omega)])
      · have hcc : c = N := by omega
        refine Gs.freezeE (v := q) (enc := eInt) (l := l) (by decide) ?_
        intro h4 hle4 r4
        obtain ⟨qr, rfl⟩ := r4.hdr
        (repeat (refine G.step ?_))
        refine Gs.buildSlice (by decide) ?_
        intro q5
        refine Gs.appendO (enc := eSlH) (l := hs) (m := [qr]) (e2 := 33) (by simp [fl]) (by simp; omega) (by simp; omega) ?_
        intro v6
        refine Gs.slH (v := v6) ?_
        rintro q6 rfl
        (repeat (first | refine G.add (by omega) ?_ | refine G.rem (by omega) ?_ | refine G.step ?_ | refine Gs.store ?_))
        refine Gs.buildSlice (by decide) ?_
        intro q7
        refine Gs.appendO (enc := eInt) (l := turnL.take d) (m := [((d : Int) + 4) % 8]) (e2 := 3) (by rw [Int.tmod_eq_emod_of_nonneg (by omega)]; simp [fl]) (by simp; omega) (by simp; omega) ?_
        intro v8
        refine Gs.slH (v := v8) ?_
        rintro q8 rfl
        (repeat (first | refine G.add (by omega) ?_ | refine G.step ?_ | refine Gs.store ?_))
        rw [← turn_at (by omega)]
        exact Gs.goS (hc (d + 1, q6, hs ++ [qr], ns ++ [l], q8, h4) ⟨by dsimp only; omega, hle3.trans hle4, (All2.monoR hle4 hal).snoc r4, by simp [hnl], fun l' hl' => by
            rcases List.mem_append.1 hl' with hl' | hl'
            · exact hns l' hl'
            · rw [List.mem_singleton.1 hl']; exact ⟨by omega, hlb⟩⟩ (by dsimp only; omega)) rfl
    · have hd8 : d = 8 := by omega
      subst hd8
      refine Gs.freezeE (v := slv qn) (enc := eSlH) (l := hs) (by decide) ?_
      intro h4 hle4 r4
      refine Gs.freezeE (v := slv qt) (enc := eInt) (l := turnL.take 8) (by decide) ?_
      intro h5 hle5 r5
      (repeat (first | refine G.step ?_ | refine Gs.store ?_ | refine G.retc ?_))
      exact Gs.ret ⟨qn, qt, ns, turnL, rfl, ⟨⟨hs, r4.mono hle5, All2.monoR (hle4.trans hle5) hal⟩, r5, good_turn hN9.1 hN9.2 hnl hns⟩⟩
  · intro K hK
    (repeat (refine G.step ?_))
    refine G.gdyf (by omega) ?_
    (repeat (refine G.step ?_))
    refine G.gdyf (by omega) ?_
    (repeat (refine G.step ?_))
    refine G.gdyf (by omega) ?_
    (repeat (refine G.step ?_))
    refine G.gdyf (by omega) ?_
    refine G.mul (by rw [hNi]; omega) ?_
    rw [hNi]
    (repeat (refine G.step ?_))
    exact hK _ (by rw [decide_eq_false (by omega)])
end Go.Proofs.YtcmokdokcghooaaGreatDoor
end

section
set_option linter.unusedVariables false
set_option maxHeartbeats 8000000
namespace Go.Proofs.YtcmokdokcghooaaGreatDoor
open Go Go.Sk Go.Pr Go.Ps Go.RowKit
variable {w0 : World} {h0 h : Hp} {L : List Itm} {K : Value → WP}
theorem without_ok (n : Nat) (a b : SlH) (next : List (List Int)) (turn : List Int) (z : Nat) (hz : z < n) (h : Hp) (hb : BdR h a b n next turn) : Ct Tryz.prog 72 [vBd n a b, I z] h (fun h' v => BdPost n h' v) := by
  refine ct72 ?_
  intro w0
  unfold s72
  have hG := hb.g
  have g1 := hG.c1
  have g2 := hG.c9
  have g3 := hG.d1
  have g4 := hG.d8
  have g5 := hG.tl
  have rt := hb.rt
  have rn := hb.rn
  (repeat (first | (refine Gs.box ?_; intro _) | (refine Gs.alloc ?_; intro _)))
  rename_i ab tb
  refine G.jnP (fun j => j = .bool false) ?_ ?_
  · rintro j rfl
    refine G.jk ?_; intro _
    (repeat (refine G.iff ?_))
    refine G.jnk (fun a' S' => ∃ (bb : Nat) (qt : SlH), a' = ptr bb 0 ∧ S' = St w0 h h [.blk bb [I n, .slice none 0 0, slv qt] 35, .sl (slv qt) 3 1 (fl eInt turn), .blk tb [I 0, .slice none 0 0, .slice none 0 0] 35, .blk ab [I n, slv a, slv b] 35]) ?_ ?_
    · rintro a' _ ⟨bb, qt, rfl, rfl⟩
      refine G.jk ?_; intro _
      refine Gs.nilsl 33 1 ?_
      refine Gs.sel (L' := [.blk bb [I n, .slice none 0 0, slv qt] 35, .sl (.slice none 0 0) 33 1 [], .sl (slv qt) 3 1 (fl eInt turn), .blk tb [I 0, .slice none 0 0, .slice none 0 0] 35, .blk ab [I n, slv a, slv b] 35]) ?_
      refine Gs.lp (β := Nat × SlH × List SlH × List (List Int) × Hp) (fun u => I u.1) (fun u => u.2.2.2.2) (fun u => [.blk bb [I n, slv u.2.1, slv qt] 35, .sl (slv u.2.1) 33 1 (fl eSlH u.2.2.1), .sl (slv qt) 3 1 (fl eInt turn), .blk tb [I 0, .slice none 0 0, .slice none 0 0] 35, .blk ab [I n, slv a, slv b] 35]) (fun u => u.1 ≤ next.length ∧ Hle h u.2.2.2.2 ∧ All2 (intsR u.2.2.2.2) u.2.2.1 u.2.2.2.1 ∧ u.2.2.2.1.length = u.1 ∧ ∀ l ∈ u.2.2.2.1, l.length = n ∧ ∀ c ∈ l, -1 ≤ c ∧ c < n) (fun u => next.length - u.1) (0, (none, 0, 0), [], [], h) rfl ⟨Nat.zero_le _, Hle.refl _, .nil, rfl, fun l hl => by simp at hl⟩ (fun _ s => s) ?_
      rintro ⟨d, qn, hs, ns, h3⟩ ⟨hd, hle3, hal, hnl, hns⟩ cont hc
      dsimp only at *
      have hhl := hal.len
      have rn3 := rn.mono hle3
      (repeat (first | refine G.step ?_ | (refine G.jk ?_; intro _)))
      refine Gs.lenF rn3 (by omega) ?_
      (repeat (refine G.step ?_))
      refine G.ifd ?_ ?_ <;> intro hlt
      · have hd' : d < next.length := by omega
        have hrow := hG.rl _ (List.getElem_mem hd')
        have hrc := hG.rc _ (List.getElem_mem hd')
        refine Gs.buildSlice (by decide) ?_
        intro q2
        refine Gs.lp (β := Nat × Value × List Int) (fun u => (u.2.1, I u.1)) (fun _ => h3) (fun u => [.sl u.2.1 3 1 (fl eInt u.2.2), .blk bb [I n, slv qn, slv qt] 35, .sl (slv qn) 33 1 (fl eSlH hs), .sl (slv qt) 3 1 (fl eInt turn), .blk tb [I 0, .slice none 0 0, .slice none 0 0] 35, .blk ab [I n, slv a, slv b] 35]) (fun u => u.1 ≤ n ∧ u.2.2.length = u.1 ∧ ∀ c ∈ u.2.2, -1 ≤ c ∧ c < n) (fun u => n - u.1) (0, .slice (some ⟨q2, 0, none⟩) 0 0, []) rfl ⟨Nat.zero_le _, rfl, fun l hl => by simp at hl⟩ (fun _ s => s) ?_
        rintro ⟨c, q, l⟩ ⟨hcN, hll, hlb⟩ cont2 hc2
        dsimp only at *
        (repeat (first | refine G.step ?_ | (refine G.jk ?_; intro _)))
        refine G.ifd ?_ ?_ <;> intro hlt2
        · have hcr : c < next[d].length := by omega
          have hto := hrc _ (List.getElem_mem hcr)
          (repeat (refine G.step ?_))
          refine Gs.indexF rn3 hd' ?_
          intro b1 o1 x1 hp1 hr1
          refine Gs.loadE hp1 ?_
          refine Gs.indexE hr1 hcr ?_
          intro b2 o2 hp2
          refine Gs.loadE hp2 ?_
          generalize next[d][c] = t0 at *
          refine G.jnP (fun j => ∃ t : Int, j = I t ∧ -1 ≤ t ∧ t < n) ?_ ?_
          · rintro j ⟨t, rfl, ht⟩
            refine G.jk ?_; intro _
            refine Gs.buildSlice (by decide) ?_
            intro q3
            refine Gs.appendO (enc := eInt) (l := l) (m := [t]) (e2 := 3) (by simp [fl]) (by simp; omega) (by simp; omega) ?_
            intro q4
            (repeat (refine G.add (by omega) ?_))
            exact Gs.goS (hc2 (c + 1, q4, l ++ [t]) ⟨by dsimp only; omega, by simp [hll], fun n hn => by
              rcases List.mem_append.1 hn with hn | hn
              · exact hlb n hn
              · rw [List.mem_singleton.1 hn]; exact ht⟩ (by dsimp only; omega)) rfl
          · intro K hK
            refine G.jnP (fun j => ∃ q : Bool, j = .bool q) ?_ ?_
            · rintro j ⟨q, rfl⟩
              refine G.jk ?_; intro _
              refine G.ifb ?_ ?_ <;> intro hq
              · exact hK _ ⟨-1, rfl, by omega, by omega⟩
              · exact hK _ ⟨t0, rfl, hto⟩
            · intro K' hK'
              (repeat (refine G.step ?_))
              refine G.gddf ?_ ?_ <;> intro g1
              · exact hK' _ ⟨true, rfl⟩
              · (repeat (refine G.step ?_))
                exact hK' _ ⟨_, rfl⟩
        · have hcc : c = n := by omega
          refine Gs.freezeE (v := q) (enc := eInt) (l := l) (by decide) ?_
          intro h4 hle4 r4
          obtain ⟨qr, rfl⟩ := r4.hdr
          (repeat (refine G.step ?_))
          refine Gs.buildSlice (by decide) ?_
          intro q5
          refine Gs.appendO (enc := eSlH) (l := hs) (m := [qr]) (e2 := 33) (by simp [fl]) (by simp; omega) (by simp; omega) ?_
          intro v6
          refine Gs.slH (v := v6) ?_
          rintro q6 rfl
          (repeat (first | refine G.add (by omega) ?_ | refine G.step ?_ | refine Gs.store ?_))
          exact Gs.goS (hc (d + 1, q6, hs ++ [qr], ns ++ [l], h4) ⟨by dsimp only; omega, hle3.trans hle4, (All2.monoR hle4 hal).snoc r4, by simp [hnl], fun l' hl' => by
            rcases List.mem_append.1 hl' with hl' | hl'
            · exact hns l' hl'
            · rw [List.mem_singleton.1 hl']; exact ⟨by omega, hlb⟩⟩ (by dsimp only; omega)) rfl
      · have hd8 : d = next.length := by omega
        refine Gs.freezeE (v := slv qn) (enc := eSlH) (l := hs) (by decide) ?_
        intro h4 hle4 r4
        refine Gs.freezeE (v := slv qt) (enc := eInt) (l := turn) (by decide) ?_
        intro h5 hle5 r5
        (repeat (first | refine G.step ?_ | refine Gs.store ?_ | refine G.retc ?_))
        refine Gs.ret ⟨qn, qt, ns, turn, rfl, ⟨⟨hs, r4.mono hle5, All2.monoR (hle4.trans hle5) hal⟩, r5, ⟨g1, g2, by omega, by omega, by omega, fun l hl => (hns l hl).1, fun l hl => (hns l hl).2, fun d hd => by have := hG.t0 d hd; omega, hG.tt⟩⟩⟩
    · intro k' hk'
      (repeat (first | refine Gs.dr ?_ | refine G.qkp ?_ | refine Gs.qkb ?_))
      refine G.or2 ?_ ?_
      · refine Gs.buildSlice (by decide) ?_
        intro q1
        repeat (first | refine G.withT ?_ | refine Gs.withb ?_)
        refine G.or2 ?_ ?_
        · refine Gs.appendR (enc := eInt) (l := []) (m := turn) (v := .slice (some ⟨q1, 0, none⟩) 0 0) rt (by simp; omega) (by simp; omega) ?_
          intro v2
          refine Gs.slH (v := v2) ?_
          rintro q2 rfl
          simp only [List.nil_append]
          (repeat (first | (refine Gs.alloc ?_; intro _) | refine Gs.store ?_ | refine G.qkp ?_ | refine G.withT ?_ | refine Gs.withb ?_))
          exact hk' _ _ ⟨_, q2, rfl, rfl⟩
        · (repeat (first | (refine Gs.alloc ?_; intro _) | refine G.withT ?_ | refine Gs.withb ?_))
          refine Gs.appendR (enc := eInt) (l := []) (m := turn) (v := .slice (some ⟨q1, 0, none⟩) 0 0) rt (by simp; omega) (by simp; omega) ?_
          intro v2
          refine Gs.slH (v := v2) ?_
          rintro q2 rfl
          simp only [List.nil_append]
          (repeat (first | refine Gs.store ?_ | refine G.qkp ?_ | refine G.withT ?_ | refine Gs.withb ?_))
          exact hk' _ _ ⟨_, q2, rfl, rfl⟩
      · (repeat (first | (refine Gs.alloc ?_; intro _) | refine G.withT ?_ | refine Gs.withb ?_))
        refine Gs.buildSlice (by decide) ?_
        intro q1
        repeat (first | refine G.withT ?_ | refine Gs.withb ?_)
        refine Gs.appendR (enc := eInt) (l := []) (m := turn) (v := .slice (some ⟨q1, 0, none⟩) 0 0) rt (by simp; omega) (by simp; omega) ?_
        intro v2
        refine Gs.slH (v := v2) ?_
        rintro q2 rfl
        simp only [List.nil_append]
        (repeat (first | refine Gs.store ?_ | refine G.qkp ?_ | refine G.withT ?_ | refine Gs.withb ?_))
        exact hk' _ _ ⟨_, q2, rfl, rfl⟩
  · intro K hK
    (repeat (first | refine G.step ?_ | refine G.gdff ?_))
    exact hK _ (by congr 1; simp; omega)
theorem made1_ok (w hh cut : UInt8) (h : Hp) : Ct Tryz.prog 37 [.int .u8 w.toNat, .int .u8 hh.toNat, .int .u8 cut.toNat] h (fun h' v => ∃ n a b next turn, v = vBd n a b ∧ BdR h' a b n next turn) := by
  refine ct37 ?_
  intro w0
  unfold s37
  have hw := u8lt w
  have hh' := u8lt hh
  have hcut := u8lt cut
  (repeat (refine Gs.alloc ?_; intro _))
  rename_i tb
  refine G.rem8 (by omega) (by omega) ?_
  refine G.conv (by omega) ?_
  (repeat (refine G.add (by omega) ?_))
  refine G.rem8 (by omega) (by omega) ?_
  refine G.conv (by omega) ?_
  (repeat (refine G.add (by omega) ?_))
  obtain ⟨W, hW, hWb⟩ : ∃ W : Nat, 1 + (w.toNat : Int) % 3 = W ∧ 1 ≤ W ∧ W ≤ 3 := ⟨1 + w.toNat % 3, by simp, by omega, by omega⟩
  obtain ⟨H, hH, hHb⟩ : ∃ W : Nat, 1 + (hh.toNat : Int) % 3 = W ∧ 1 ≤ W ∧ W ≤ 3 := ⟨1 + hh.toNat % 3, by simp, by omega, by omega⟩
  rw [hW, hH]
  refine Gs.call0 (grid_ok W H hWb hHb h) ?_
  rintro _ h1 hle1 ⟨a, b, next, turn, rfl, hb⟩
  generalize W * H = n at *
  have g1 := hb.g.c1
  have g9 := hb.g.c9
  (repeat (first | refine G.step ?_ | (refine Gs.alloc ?_; intro _) | refine Gs.store ?_))
  rename_i bb
  refine G.jnk (fun _ S' => ∃ (h2 : Hp) (a2 b2 : SlH) (next2 : List (List Int)) (turn2 : List Int), BdR h2 a2 b2 n next2 turn2 ∧ S' = St w0 h h2 [.blk bb [I n, slv a2, slv b2] 35, .blk tb [I 0, .slice none 0 0, .slice none 0 0] 35]) ?_ ?_
  · rintro _ _ ⟨h2, a2, b2, next2, turn2, hb2, rfl⟩
    refine G.jk ?_; intro _
    (repeat (first | refine G.step ?_ | refine Gs.store ?_ | refine G.retc ?_))
    exact Gs.ret ⟨n, a2, b2, next2, turn2, rfl, hb2⟩
  · intro k' hk'
    (repeat (refine G.step ?_))
    refine G.ifd ?_ ?_ <;> intro hc
    · refine Gs.dr ?_
      refine Gs.qkb ?_
      refine G.qconv (by omega) ?_
      (repeat (first | refine G.qkp ?_ | refine Gs.qkb ?_))
      refine G.qremN (by omega) (by omega) ?_
      obtain ⟨z, hz, hzl⟩ : ∃ z : Nat, (cut.toNat : Int) % (n : Int) = z ∧ z < n := ⟨cut.toNat % n, by simp, Nat.mod_lt _ (by omega)⟩
      rw [hz]
      refine Gs.call0 (without_ok n a b next turn z hzl h1 hb) ?_
      rintro _ h2 hle2 ⟨a2, b2, next2, turn2, rfl, hb2⟩
      (repeat (first | refine Gs.store ?_ | refine G.qkp ?_ | refine G.withT ?_))
      exact hk' _ _ ⟨h2, a2, b2, next2, turn2, hb2, rfl⟩
    · exact hk' _ _ ⟨h1, a, b, next, turn, hb, rfl⟩
end Go.Proofs.YtcmokdokcghooaaGreatDoor
end

section
set_option linter.unusedVariables false
set_option maxHeartbeats 8000000
namespace Go.Proofs.YtcmokdokcghooaaGreatDoor
open Go Go.Sk Go.Pr Go.Ps Go.RowKit
theorem Tight.rd {h : Hp} {v : Value} {l : List Stp} (t : Tight h v l) : RdE h v encP 2 l := by
  obtain ⟨_, _, hr⟩ := t
  exact hr
theorem Tight.mono {h h' : Hp} {v : Value} {l : List Stp} (hle : Hle h h') (t : Tight h v l) : Tight h' v l := by
  obtain ⟨a, e, hr⟩ := t
  exact ⟨a, e, hr.mono hle⟩
theorem valid_of {l : List Stp} {d k r : Int} (h0 : 0 < l.length) (h8 : l.length ≤ 8) (ha : allB l d k r = true) (h6 : cnt l 6 ≤ 2) (h7 : cnt l 7 ≤ 1) (hb : cnt l 8 ≤ 1) : validB l d k r = true := decide_eq_true ⟨h0, h8, ha, h6, h7, hb⟩
theorem lib_cases {P : List Stp → Prop} (l : List Int)
    (h : ∀ d e k r : Int, 0 ≤ d → d < 8 → 0 ≤ e → e < 8 → 0 ≤ k → k < 6 → 0 ≤ r → r < 4 → ∀ i : Nat, i < 16 → P ((libT d e k r).getD i [])) : P (lib l) := by
  unfold lib
  exact h _ _ _ _ (by omega) (by omega) (by omega) (by omega) (by omega) (by omega) (by omega) (by omega) _ (by omega)
theorem stepT {op n : Int} (h1 : 1 ≤ op) (h2 : op ≤ 10) (h3 : 0 ≤ n) (h4 : n < lim 8 6 4 (num op)) : stepB (op, n) 8 6 4 = true := decide_eq_true ⟨h1, h2, h3, h4⟩
theorem lib_valid (l : List Int) : validB (lib l) 8 6 4 = true := by
  refine lib_cases (P := fun p => validB p 8 6 4 = true) l ?_
  intro d e k r d0 d8 e0 e8 k0 k6 r0 r4 i hi
  have sd : ∀ d, 0 ≤ d → d < 8 → stepB (1, d) 8 6 4 = true := fun d h1 h2 => stepT (by decide) (by decide) h1 h2
  have s1 := sd d d0 d8
  have s2 := sd e e0 e8
  have s3 := sd ((d + 4) % 8) (by omega) (by omega)
  have s4 : stepB (2, d) 8 6 4 = true := stepT (by decide) (by decide) d0 d8
  have s5 : stepB (7, d) 8 6 4 = true := stepT (by decide) (by decide) d0 d8
  have s6 : stepB (8, k) 8 6 4 = true := stepT (by decide) (by decide) k0 k6
  have s7 : stepB (9, r) 8 6 4 = true := stepT (by decide) (by decide) r0 r4
  have s8 : stepB (10, r) 8 6 4 = true := stepT (by decide) (by decide) r0 r4
  have z3 : stepB (3, 0) 8 6 4 = true := rfl
  have z4 : stepB (4, 0) 8 6 4 = true := rfl
  have z5 : stepB (5, 0) 8 6 4 = true := rfl
  have z6 : stepB (6, 0) 8 6 4 = true := rfl
  have hc : i = 0 ∨ i = 1 ∨ i = 2 ∨ i = 3 ∨ i = 4 ∨ i = 5 ∨ i = 6 ∨ i = 7 ∨ i = 8 ∨ i = 9 ∨ i = 10 ∨ i = 11 ∨ i = 12 ∨ i = 13 ∨ i = 14 ∨ i = 15 := by omega
  rcases hc with rfl | rfl | rfl | rfl | rfl | rfl | rfl | rfl | rfl | rfl | rfl | rfl | rfl | rfl | rfl | rfl
  all_goals
    exact valid_of (Nat.le_of_ble_eq_true rfl) (Nat.le_of_ble_eq_true rfl) (by simp only [libT, List.getD_cons_zero, List.getD_cons_succ, allB, List.all_cons, List.all_nil, s1, s2, s3, s4, s5, s6, s7, s8, z3, z4, z5, z6, Bool.and_self]) (Nat.le_of_ble_eq_true rfl) (Nat.le_of_ble_eq_true rfl) (Nat.le_of_ble_eq_true rfl)

variable {w0 : World} {h0 h : Hp} {L : List Itm} {K : Value → WP}
instance ldStp : LdE Tryz.prog 146 encP (fun s => Sv s) := (LdE.agg : LdE Tryz.prog 146 encP (fun s => .agg (encP s).toArray))
structure FitI (p out : List Stp) (i : Nat) (d k r : Int) : Prop where
  len : out.length ≤ i
  ok : allB out d k r = true
  c6 : cnt out 6 ≤ cnt (p.take i) 6
  c7 : cnt out 7 ≤ cnt (p.take i) 7
  c8 : cnt out 8 ≤ cnt (p.take i) 8
theorem FitI.skip {p out : List Stp} {i : Nat} {d k r : Int} (h : FitI p out i d k r) (hi : i < p.length) : FitI p out (i + 1) d k r := by
  refine ⟨by have := h.len; omega, h.ok, ?_, ?_, ?_⟩ <;> rw [← List.take_append_getElem hi, cnt_snoc]
  · have := h.c6; omega
  · have := h.c7; omega
  · have := h.c8; omega
theorem FitI.add {p out : List Stp} {i : Nat} {d k r n : Int} (h : FitI p out i d k r) (hi : i < p.length) (hs : stepB (p[i].1, n) d k r = true) : FitI p (out ++ [(p[i].1, n)]) (i + 1) d k r := by
  refine ⟨by have := h.len; simp; omega, ?_, ?_, ?_, ?_⟩
  · have := h.ok
    unfold allB at *
    rw [List.all_append, this]
    simpa using hs
  · rw [← List.take_append_getElem hi, cnt_snoc, cnt_snoc]
    have := h.c6; dsimp only; omega
  · rw [← List.take_append_getElem hi, cnt_snoc, cnt_snoc]
    have := h.c7; dsimp only; omega
  · rw [← List.take_append_getElem hi, cnt_snoc, cnt_snoc]
    have := h.c8; dsimp only; omega
theorem fit_ok (p : List Stp) (v : Value) (d k r : Int) (h : Hp) (hr : RdE h v encP 2 p) (hp : validB p 8 6 4 = true) (hd : 1 ≤ d ∧ d ≤ 100) (hk : 1 ≤ k ∧ k ≤ 100) (h0r : 0 ≤ r ∧ r ≤ 100) : Ct Tryz.prog 73 [v, I d, I k, I r] h (fun h' x => ∃ q, RdE h' x encP 2 q ∧ validB q d k r = true ∧ q.length ≤ 8) := by
  refine ct73 ?_
  intro w0
  unfold s73
  obtain ⟨p0, p8, pall, p6, p7, pb⟩ := of_decide_eq_true hp
  refine Gs.buildSlice (by decide) ?_
  intro q0
  refine Gs.lp (β := Nat × Value × List Stp) (fun u => (u.2.1, I u.1)) (fun _ => h) (fun u => [.sl u.2.1 146 2 (fl encP u.2.2)]) (fun u => u.1 ≤ p.length ∧ FitI p u.2.2 u.1 d k r) (fun u => p.length - u.1) (0, .slice (some ⟨q0, 0, none⟩) 0 0, []) rfl ⟨Nat.zero_le _, ⟨by simp, rfl, by simp [cnt], by simp [cnt], by simp [cnt]⟩⟩ (fun _ s => s) ?_
  rintro ⟨i, q, out⟩ ⟨hi, hI⟩ cont hc
  dsimp only at *
  (repeat (refine G.jk ?_; intro _))
  refine Gs.lenE hr (by omega) ?_
  (repeat (refine G.step ?_))
  refine G.ifd ?_ ?_ <;> intro hlt
  · have h1 : i < p.length := by omega
    have hol := hI.len
    have hs : stepB p[i] 8 6 4 = true := List.all_eq_true.1 pall _ (List.getElem_mem h1)
    obtain ⟨s1, s2, s3, s4⟩ := of_decide_eq_true hs
    have hadd := fun n (hn : stepB (p[i].1, n) d k r = true) => hI.add (n := n) h1 hn
    have hskip := hI.skip h1
    have hlim8 : lim 8 6 4 (num p[i].1) ≤ 8 := by unfold lim; repeat' split <;> omega
    refine G.jnk (fun a S' => ∃ out', FitI p out' (i + 1) d k r ∧ S' = St w0 h h [.sl a 146 2 (fl encP out')]) ?_ ?_
    · rintro a _ ⟨out', hI', rfl⟩
      refine G.jk ?_; intro _
      (repeat (refine G.add (by omega) ?_))
      exact Gs.goS (hc (i + 1, a, out') ⟨by dsimp only; omega, hI'⟩ (by dsimp only; omega)) rfl
    · intro k5 hk5
      refine Gs.indexE hr h1 ?_
      intro b o hpt
      refine Gs.loadE hpt ?_
      generalize p[i] = st at *
      obtain ⟨op, n⟩ := st
      dsimp only at *
      (repeat (first | (refine Gs.alloc ?_; intro _) | refine Gs.store ?_))
      rename_i xb
      refine G.jnk (fun _ S' => ∃ n', stepB (op, n') d k r = true ∧ S' = St w0 h h [.blk xb [I op, I n'] 146, .sl q 146 2 (fl encP out)]) ?_ ?_
      · rintro _ _ ⟨n', hn', rfl⟩
        refine G.jk ?_; intro _
        (repeat (refine G.step ?_))
        refine Gs.buildSlice (by decide) ?_
        intro q1
        refine Gs.appendO (enc := encP) (l := out) (m := [(op, n')]) (e2 := 146) (by simp [fl]) (by simp; omega) (by simp; omega) ?_
        intro q2
        refine Gs.sel (L' := [.sl q2 146 2 (fl encP (out ++ [(op, n')]))]) ?_
        exact hk5 _ _ ⟨_, hadd n' hn', rfl⟩
      · intro k11 hk11
        (repeat (refine G.step ?_))
        refine G.jnP (fun j => j = .bool (decide (op = 1 ∨ op = 2 ∨ op = 7))) ?_ ?_
        · rintro j rfl
          refine G.jk ?_; intro _
          refine G.ifd ?_ ?_ <;> intro ho
          · have hnum : num op = 1 := by unfold num; rw [if_pos ho]
            (repeat (first | refine G.rem (by omega) ?_ | refine G.step ?_ | refine Gs.store ?_))
            rw [Int.tmod_eq_emod_of_nonneg s3]
            refine hk11 _ _ ⟨n % d, decide_eq_true ⟨s1, s2, Int.emod_nonneg _ (by omega), ?_⟩, rfl⟩
            dsimp only
            rw [hnum]
            exact Int.emod_lt_of_pos _ (by omega)
          · (repeat (refine G.step ?_))
            refine G.ifd ?_ ?_ <;> intro ho8
            · have hnum : num op = 2 := by unfold num; rw [if_neg ho, if_pos ho8]
              (repeat (first | refine G.rem (by omega) ?_ | refine G.step ?_ | refine Gs.store ?_))
              rw [Int.tmod_eq_emod_of_nonneg s3]
              refine hk11 _ _ ⟨n % k, decide_eq_true ⟨s1, s2, Int.emod_nonneg _ (by omega), ?_⟩, rfl⟩
              dsimp only
              rw [hnum]
              exact Int.emod_lt_of_pos _ (by omega)
            · refine G.jnP (fun j => j = .bool (decide (op = 9 ∨ op = 10))) ?_ ?_
              · rintro j rfl
                refine G.jk ?_; intro _
                refine G.ifd ?_ ?_ <;> intro ho9
                · have hnum : num op = 3 := by unfold num; rw [if_neg ho, if_neg ho8, if_pos ho9]
                  (repeat (refine G.step ?_))
                  refine G.ifd ?_ ?_ <;> intro hr0
                  · refine Gs.sel (L' := [.sl q 146 2 (fl encP out)]) ?_
                    exact hk5 _ _ ⟨out, hskip, rfl⟩
                  · (repeat (first | refine G.rem (by omega) ?_ | refine G.step ?_ | refine Gs.store ?_))
                    rw [Int.tmod_eq_emod_of_nonneg s3]
                    refine hk11 _ _ ⟨n % r, decide_eq_true ⟨s1, s2, Int.emod_nonneg _ (by omega), ?_⟩, rfl⟩
                    dsimp only
                    rw [hnum]
                    exact Int.emod_lt_of_pos _ (by omega)
                · have hnum : num op = 0 := by unfold num; rw [if_neg ho, if_neg ho8, if_neg ho9]
                  refine hk11 _ _ ⟨n, decide_eq_true ⟨s1, s2, s3, ?_⟩, rfl⟩
                  have s4' := s4
                  rw [hnum] at s4'
                  show n < lim d k r (num op)
                  rw [hnum]
                  exact s4'
              · intro K hK
                (repeat (refine G.step ?_))
                refine G.ifd ?_ ?_ <;> intro h9
                · exact hK _ (by rw [decide_eq_true h9, decide_eq_true (.inl h9)])
                · (repeat (refine G.step ?_))
                  exact hK _ (by congr 1; rw [decide_eq_decide]; omega)
        · intro K hK
          (repeat (refine G.step ?_))
          refine G.ifd ?_ ?_ <;> intro h9
          · exact hK _ (by rw [decide_eq_true h9, decide_eq_true (.inl h9)])
          · (repeat (refine G.step ?_))
            refine G.ifd ?_ ?_ <;> intro h10
            · exact hK _ (by rw [decide_eq_true h10, decide_eq_true (.inr (.inl h10))])
            · (repeat (refine G.step ?_))
              exact hK _ (by congr 1; rw [decide_eq_decide]; omega)
  · have hip : i = p.length := by omega
    subst hip
    have hol := hI.len
    refine Gs.olen (enc := encP) (l := out) (by omega) ?_
    (repeat (refine G.step ?_))
    refine G.ifd ?_ ?_ <;> intro hz
    · (repeat (refine G.step ?_))
      refine Gs.buildSlice (by decide) ?_
      intro q3
      refine Gs.freezeE (v := .slice (some ⟨q3, 0, none⟩) 1 1) (enc := encP) (l := [(3, 0)]) (by decide) ?_
      intro h2 hle2 r2
      exact Gs.ret ⟨[(3, 0)], r2, decide_eq_true ⟨by simp, by simp, by rfl, by decide, by decide, by decide⟩, by simp⟩
    · refine Gs.freezeE (v := q) (enc := encP) (l := out) (by decide) ?_
      intro h2 hle2 r2
      have c6 := hI.c6
      have c7 := hI.c7
      have c8 := hI.c8
      rw [List.take_length] at c6 c7 c8
      exact Gs.ret ⟨out, r2, decide_eq_true ⟨by omega, by omega, hI.ok, by omega, by omega, by omega⟩, by omega⟩
theorem made2_ok (n : UInt8) (d k r : Int) (h : Hp) (hd : 1 ≤ d ∧ d ≤ 100) (hk : 1 ≤ k ∧ k ≤ 100) (h0r : 0 ≤ r ∧ r ≤ 100) : Ct Tryz.prog 38 [.int .u8 n.toNat, I d, I k, I r] h (fun h' x => ∃ q, RdE h' x encP 2 q ∧ validB q d k r = true ∧ q.length ≤ 8) := by
  refine ct38 ?_
  intro w0
  unfold s38
  have hn := u8lt n
  have q16 := Int.ediv_nonneg (a := (n.toNat : Int)) (b := 16) (by omega) (by decide)
  refine G.quo8 (by omega) (by decide) ?_
  refine G.quo8 (by omega) (by decide) ?_
  refine G.rem8 (by omega) (by decide) ?_
  refine G.add8 (by omega) ?_
  refine G.quo8 (by omega) (by decide) ?_
  refine Gs.buildSlice (by decide) ?_
  intro q0
  refine Gs.freezeE (v := .slice (some ⟨q0, 0, none⟩) 5 5) (enc := eU) (l := [(n.toNat : Int), (n.toNat : Int) / 16, (n.toNat : Int) / 16 + (n.toNat : Int) % 5, (n.toNat : Int) / 3, (n.toNat : Int)]) (by decide) ?_
  intro h1 hle1 r1
  refine Gs.call0 (Lib_ok _ _ h1 r1 ?_ (by simp)) ?_
  · intro m hm
    simp only [List.mem_cons, List.not_mem_nil, or_false] at hm
    omega
  · intro v2 h2 hle2 t2
    refine Gs.call0 (fit_ok _ v2 d k r h2 t2.rd (lib_valid _) hd hk h0r) ?_
    intro v3 h3 hle3 r3
    exact Gs.ret r3
end Go.Proofs.YtcmokdokcghooaaGreatDoor
end

section
set_option linter.unusedVariables false
set_option maxHeartbeats 16000000
namespace Go.Proofs.YtcmokdokcghooaaGreatDoor
open Go Go.Sk Go.Pr Go.Ps Go.RowKit
variable {w0 : World} {h0 h : Hp} {L : List Itm} {K : Value → WP}
abbrev eC3 : UInt8 × UInt8 × UInt8 → List Value := fun x => [.int .u8 x.1.toNat, .int .u8 x.2.1.toNat, .int .u8 x.2.2.toNat]
instance : Enc eC3 3 := ⟨fun _ => rfl, fun a v h => by
  simp only [eC3, List.mem_cons, List.not_mem_nil, or_false] at h
  rcases h with rfl | rfl | rfl <;> rfl⟩
structure RwG where
  w : UInt8
  h : UInt8
  cut : UInt8
  k0 : SlH
  k1 : SlH
  cs : SlH
  f : Nat → UInt8
abbrev eRg (x : RwG) : List Value := [.int .u8 x.w.toNat, .int .u8 x.h.toNat, .int .u8 x.cut.toNat, slv x.k0, slv x.k1, slv x.cs, .int .u8 (x.f 0).toNat, .int .u8 (x.f 1).toNat, .int .u8 (x.f 2).toNat, .int .u8 (x.f 3).toNat, .int .u8 (x.f 4).toNat, .int .u8 (x.f 5).toNat]
abbrev vRg (x : RwG) : Value := .agg #[.int .u8 x.w.toNat, .int .u8 x.h.toNat, .int .u8 x.cut.toNat, slv x.k0, slv x.k1, slv x.cs, .int .u8 (x.f 0).toNat, .int .u8 (x.f 1).toNat, .int .u8 (x.f 2).toNat, .int .u8 (x.f 3).toNat, .int .u8 (x.f 4).toNat, .int .u8 (x.f 5).toNat]
structure RgR (h : Hp) (x : RwG) (b0 b1 : List UInt8) (c : List (UInt8 × UInt8 × UInt8)) : Prop where
  k0 : RdE h (slv x.k0) eByte 1 b0
  k1 : RdE h (slv x.k1) eByte 1 b1
  cs : RdE h (slv x.cs) eC3 3 c
  l0 : b0.length ≤ 9223372036854775807
  l1 : b1.length ≤ 9223372036854775807
  lc : c.length ≤ 9223372036854775807
theorem RgR.mono {h h' : Hp} {x : RwG} {b0 b1 : List UInt8} {c : List (UInt8 × UInt8 × UInt8)} (hle : Hle h h') (hr : RgR h x b0 b1 c) : RgR h' x b0 b1 c := ⟨hr.k0.mono hle, hr.k1.mono hle, hr.cs.mono hle, hr.l0, hr.l1, hr.lc⟩
instance ix60 {S : WP} {b o : Nat} : Yd Tryz.prog S (V (Instr.indexAt 25 (ptr b o) (.int .i64 0))) (ptr b o) := Yd.ixA (sz := 1) (e := 5) (n := 6) ⟨by decide, by decide⟩ rfl
instance ix61 {S : WP} {b o c : Nat} [hc : AddN o 1 c] : Yd Tryz.prog S (V (Instr.indexAt 25 (ptr b o) (.int .i64 1))) (ptr b c) := Yd.ixA (sz := 1) (e := 5) (n := 6) ⟨by decide, by decide⟩ hc.ok
instance ix62 {S : WP} {b o c : Nat} [hc : AddN o 2 c] : Yd Tryz.prog S (V (Instr.indexAt 25 (ptr b o) (.int .i64 2))) (ptr b c) := Yd.ixA (sz := 1) (e := 5) (n := 6) ⟨by decide, by decide⟩ hc.ok
instance ix63 {S : WP} {b o c : Nat} [hc : AddN o 3 c] : Yd Tryz.prog S (V (Instr.indexAt 25 (ptr b o) (.int .i64 3))) (ptr b c) := Yd.ixA (sz := 1) (e := 5) (n := 6) ⟨by decide, by decide⟩ hc.ok
instance ix64 {S : WP} {b o c : Nat} [hc : AddN o 4 c] : Yd Tryz.prog S (V (Instr.indexAt 25 (ptr b o) (.int .i64 4))) (ptr b c) := Yd.ixA (sz := 1) (e := 5) (n := 6) ⟨by decide, by decide⟩ hc.ok
instance ix65 {S : WP} {b o c : Nat} [hc : AddN o 5 c] : Yd Tryz.prog S (V (Instr.indexAt 25 (ptr b o) (.int .i64 5))) (ptr b c) := Yd.ixA (sz := 1) (e := 5) (n := 6) ⟨by decide, by decide⟩ hc.ok
instance ix2b1 {S : WP} {b o c : Nat} [hc : AddN o 1 c] : Yd Tryz.prog S (V (Instr.indexAt 23 (ptr b o) (.int .i64 1))) (ptr b c) := Yd.ixA (sz := 1) (e := 22) (n := 2) ⟨by decide, by decide⟩ hc.ok
instance ix30 {S : WP} {b o : Nat} : Yd Tryz.prog S (V (Instr.indexAt 87 (ptr b o) (.int .i64 0))) (ptr b o) := Yd.ixA (sz := 1) (e := 5) (n := 3) ⟨by decide, by decide⟩ rfl
theorem ix3s {S : WP} {b o c : Nat} {K : WP → Value → WP} (i : Nat) (hi : i < 3) (hk : G S (K TrueC (ptr b (o + i * 1)))) : G S (Qk Tryz.prog (V (Instr.indexAt 87 (ptr b o) (.int .i64 i))) K) := G.qixN (n := 3) hi hk
def GamePost (h' : Hp) (v : Value) : Prop := ∃ (x : GmH) (g : Gm), v = vGm g x ∧ gmR h' x g ∧ GoodG g
theorem made3_ok (x : RwG) (b0 b1 : List UInt8) (C : List (UInt8 × UInt8 × UInt8)) (h : Hp) (hx : RgR h x b0 b1 C) : Ct Tryz.prog 13 [vRg x] h GamePost := by
  refine ct13 ?_
  intro w0
  unfold s13
  have f0 := u8lt (x.f 0)
  have f1 := u8lt (x.f 1)
  have f2 := u8lt (x.f 2)
  have f3 := u8lt (x.f 3)
  have f4 := u8lt (x.f 4)
  have hl0 := hx.l0
  have hl1 := hx.l1
  have hlc := hx.lc
  (repeat (first | (refine Gs.box ?_; intro _) | (refine Gs.alloc ?_; intro _)))
  rename_i xb tb
  refine G.jnk (fun a' S' => ∃ (h1 : Hp) (gb n : Nat) (a b : SlH) (next : List (List Int)) (turn : List Int) (rr : Nat) (mu : Bool), a' = ptr gb 0 ∧ Hle h h1 ∧ BdR h1 a b n next turn ∧ rr ≤ 2 ∧ S' = St w0 h h1 [.blk gb [I n, slv a, slv b, .slice none 0 0, I rr, .bool mu, .slice none 0 0, I 3, I 2] 39, .blk tb [I 0, .slice none 0 0, .slice none 0 0, .slice none 0 0, I 0, .bool false, .slice none 0 0, I 0, I 0] 39, .blk xb (eRg x) 27]) ?_ ?_
  · rintro a' _ ⟨h1, gb, n, a, b, next, turn, rr, mu, rfl, hle1, hbd, hrr, rfl⟩
    refine G.jk ?_; intro _
    have hg1 := hbd.g.c1
    have hg9 := hbd.g.c9
    have hd1 := hbd.g.d1
    have hd8 := hbd.g.d8
    have hx1 := hx.mono hle1
    refine G.jnP (fun j => ∃ nk : Nat, j = I nk ∧ 1 ≤ nk ∧ nk ≤ 2) ?_ ?_
    · rintro j ⟨nk, rfl, hnk1, hnk2⟩
      refine G.jk ?_; intro _
      refine Gs.nilsl 59 3 ?_
      refine Gs.sel (L' := [.blk gb [I n, slv a, slv b, .slice none 0 0, I rr, .bool mu, .slice none 0 0, I 3, I 2] 39, .sl (.slice none 0 0) 59 3 [], .blk tb [I 0, .slice none 0 0, .slice none 0 0, .slice none 0 0, I 0, .bool false, .slice none 0 0, I 0, I 0] 39, .blk xb (eRg x) 27]) ?_
      refine Gs.lp (β := Nat × SlH × List KdH × List Kd × Hp) (fun u => I u.1) (fun u => u.2.2.2.2) (fun u => [.blk gb [I n, slv a, slv b, slv u.2.1, I rr, .bool mu, .slice none 0 0, I 3, I 2] 39, .sl (slv u.2.1) 59 3 (fl eKd u.2.2.1), .blk tb [I 0, .slice none 0 0, .slice none 0 0, .slice none 0 0, I 0, .bool false, .slice none 0 0, I 0, I 0] 39, .blk xb (eRg x) 27]) (fun u => u.1 ≤ nk ∧ Hle h1 u.2.2.2.2 ∧ All2 (kdR u.2.2.2.2) u.2.2.1 u.2.2.2.1 ∧ u.2.2.2.1.length = u.1 ∧ (∀ i (h : i < u.2.2.2.1.length), u.2.2.2.1[i].name = if i = 0 then nameA else nameB) ∧ (∀ k ∈ u.2.2.2.1, k.progs.length ≤ 4 ∧ ∀ p ∈ k.progs, validB p next.length nk rr = true ∧ p.length ≤ 1000000)) (fun u => nk - u.1) (0, (none, 0, 0), [], [], h1) rfl ⟨Nat.zero_le _, Hle.refl _, .nil, rfl, fun i h => by simp at h, fun k hk => by simp at hk⟩ (fun _ s => s) ?_
      rintro ⟨i, qk, ys, ks, h2⟩ ⟨hi, hle2, hal, hkl, hnm, hkp⟩ cont hc
      dsimp only at *
      have hyl := hal.len
      have hx2 := hx1.mono hle2
      have hbd2 := hbd.mono hle2
      (repeat (first | refine G.step ?_ | (refine G.jk ?_; intro _)))
      refine G.ifd ?_ ?_ <;> intro hlt
      · have hi2 : i < 2 := by omega
        obtain ⟨kk, bb, hkk, hkv, hbl⟩ : ∃ kk bb, RdE h2 (slv kk) eByte 1 bb ∧ (eRg x)[3 + i * 1]? = some (slv kk) ∧ bb.length ≤ 9223372036854775807 := by
          have : i = 0 ∨ i = 1 := by omega
          rcases this with rfl | rfl
          · exact ⟨x.k0, b0, hx2.k0, rfl, hl0⟩
          · exact ⟨x.k1, b1, hx2.k1, rfl, hl1⟩
        refine G.jnk (fun a' S' => ∃ (h3 : Hp) (kb : Nat) (keep : Bool), a' = ptr kb 0 ∧ Hle h2 h3 ∧ S' = St w0 h h3 [.blk kb [Str (if i = 0 then nameA else nameB), .slice none 0 0, .bool keep] 59, .blk gb [I n, slv a, slv b, slv qk, I rr, .bool mu, .slice none 0 0, I 3, I 2] 39, .sl (slv qk) 59 3 (fl eKd ys), .blk tb [I 0, .slice none 0 0, .slice none 0 0, .slice none 0 0, I 0, .bool false, .slice none 0 0, I 0, I 0] 39, .blk xb (eRg x) 27]) ?_ ?_
        · rintro a' _ ⟨h3, kb, keep, rfl, hle3, rfl⟩
          refine G.jk ?_; intro _
          refine Gs.nilsl 85 1 ?_
          refine Gs.sel (L' := [.blk kb [Str (if i = 0 then nameA else nameB), .slice none 0 0, .bool keep] 59, .sl (.slice none 0 0) 85 1 [], .blk gb [I n, slv a, slv b, slv qk, I rr, .bool mu, .slice none 0 0, I 3, I 2] 39, .sl (slv qk) 59 3 (fl eKd ys), .blk tb [I 0, .slice none 0 0, .slice none 0 0, .slice none 0 0, I 0, .bool false, .slice none 0 0, I 0, I 0] 39, .blk xb (eRg x) 27]) ?_
          refine Gs.lp (β := Nat × SlH × List SlH × List (List Stp) × Hp) (fun u => I u.1) (fun u => u.2.2.2.2) (fun u => [.blk kb [Str (if i = 0 then nameA else nameB), slv u.2.1, .bool keep] 59, .sl (slv u.2.1) 85 1 (fl eSlH u.2.2.1), .blk gb [I n, slv a, slv b, slv qk, I rr, .bool mu, .slice none 0 0, I 3, I 2] 39, .sl (slv qk) 59 3 (fl eKd ys), .blk tb [I 0, .slice none 0 0, .slice none 0 0, .slice none 0 0, I 0, .bool false, .slice none 0 0, I 0, I 0] 39, .blk xb (eRg x) 27]) (fun u => u.1 ≤ 4 ∧ u.1 ≤ bb.length ∧ Hle h3 u.2.2.2.2 ∧ All2 (progR u.2.2.2.2) u.2.2.1 u.2.2.2.1 ∧ u.2.2.2.1.length = u.1 ∧ (∀ p ∈ u.2.2.2.1, validB p next.length nk rr = true ∧ p.length ≤ 1000000)) (fun u => 4 - u.1) (0, (none, 0, 0), [], [], h3) rfl ⟨Nat.zero_le _, Nat.zero_le _, Hle.refl _, .nil, rfl, fun k hk => by simp at hk⟩ (fun _ s => s) ?_
          rintro ⟨m, qp, hs, ps, h4⟩ ⟨hm4, hmb, hle4, halp, hpl, hpv⟩ cont2 hc2
          dsimp only at *
          have hhl := halp.len
          have hkk4 := (hkk.mono hle3).mono hle4
          have hbd4 := (hbd2.mono hle3).mono hle4
          (repeat (refine G.jk ?_; intro _))
          refine G.jnP (fun j => j = .bool (decide (m < bb.length ∧ m < 4))) ?_ ?_
          · rintro j rfl
            refine G.jk ?_; intro _
            refine G.ifd ?_ ?_ <;> intro hlt2
            · (repeat (first | refine Gs.dr ?_ | refine G.qkp ?_ | refine Gs.qkb ?_))
              refine G.qixN (i := i) (n := 2) (by omega) ?_
              refine Gs.qldN hkv ?_
              refine Gs.qindexE hkk4 hlt2.1 ?_
              intro pb po hpt
              refine Gs.qloadP1 hpt ?_
              (repeat (first | refine G.qkp ?_ | refine Gs.qkb ?_))
              refine Gs.qlenF hbd4.rn (by omega) ?_
              (repeat (first | refine G.qkp ?_ | refine Gs.qkb ?_))
              refine Gs.call0 (made2_ok bb[m] next.length nk rr h4 (by omega) (by omega) (by omega)) ?_
              rintro v h5 hle5 ⟨q, rq, vq, lq⟩
              obtain ⟨qq, rfl⟩ := rq.hdr
              (repeat (first | refine G.withT ?_ | refine Gs.withb ?_))
              refine Gs.buildSlice (by decide) ?_
              intro q1
              (repeat (first | refine G.withT ?_ | refine Gs.withb ?_))
              refine Gs.appendO (enc := eSlH) (l := hs) (m := [qq]) (e2 := 85) (by simp [fl]) (by simp; omega) (by simp; omega) ?_
              intro v6
              refine Gs.slH (v := v6) ?_
              rintro q6 rfl
              (repeat (first | refine G.add (by omega) ?_ | refine Gs.store ?_ | refine G.qkp ?_))
              exact Gs.goS (hc2 (m + 1, q6, hs ++ [qq], ps ++ [q], h5) ⟨by dsimp only; omega, by dsimp only; omega, hle4.trans hle5, (All2.monoR hle5 halp).snoc rq, by simp [hpl], fun p hp => by
                rcases List.mem_append.1 hp with hp | hp
                · exact hpv p hp
                · rw [List.mem_singleton.1 hp]; exact ⟨vq, by omega⟩⟩ (by dsimp only; omega)) rfl
            · refine Gs.freezeE (v := slv qp) (enc := eSlH) (l := hs) (by decide) ?_
              intro h5 hle5 r5
              (repeat (refine G.step ?_))
              refine Gs.buildSlice (by decide) ?_
              intro q1
              skip
              refine Gs.appendO (enc := eKd) (l := ys) (m := [((if i = 0 then nameA else nameB), qp, keep)]) (e2 := 59) (by simp [fl]) (by simp; omega) (by simp; omega) ?_
              intro v6
              refine Gs.slH (v := v6) ?_
              rintro q6 rfl
              (repeat (first | refine G.add (by omega) ?_ | refine G.step ?_ | refine Gs.store ?_))
              have hle25 := (hle3.trans hle4).trans hle5
              exact Gs.goS (hc (i + 1, q6, ys ++ [((if i = 0 then nameA else nameB), qp, keep)], ks ++ [⟨(if i = 0 then nameA else nameB), ps, keep⟩], h5) ⟨by dsimp only; omega, hle2.trans hle25, (All2.monoR hle25 hal).snoc ⟨rfl, ⟨hs, r5, All2.monoR hle5 halp⟩, rfl⟩, by simp [hkl], fun j hj => by
                  rw [List.getElem_append]
                  split
                  · exact hnm j _
                  · simp only [List.length_append, List.length_singleton] at hj
                    have : j = i := by omega
                    subst this
                    simp, fun k hk => by
                  rcases List.mem_append.1 hk with hk | hk
                  · exact hkp k hk
                  · rw [List.mem_singleton.1 hk]; exact ⟨by dsimp only; omega, hpv⟩⟩ (by dsimp only; omega)) rfl
          · intro K hK
            (repeat (refine G.step ?_))
            refine G.ixN (i := i) (n := 2) (by omega) ?_
            refine Gs.ldN hkv ?_
            refine Gs.lenE hkk4 (by omega) ?_
            (repeat (refine G.step ?_))
            refine G.gddt ?_ ?_ <;> intro hlt2
            · (repeat (refine G.step ?_))
              exact hK _ (by congr 1; rw [decide_eq_decide]; omega)
            · exact hK _ (by rw [decide_eq_false (by omega)])
        · intro k7 hk7
          (repeat (first | refine Gs.dr ?_ | refine G.qkp ?_ | refine Gs.qkb ?_))
          refine G.qshr8 (by omega) ?_
          refine G.qand8 ?_
          intro z
          refine G.qkp ?_
          have hnm2 : ∀ (h : i < [nameA, nameB].length), [nameA, nameB][i] = (if i = 0 then nameA else nameB) := fun h => by
            have : i = 0 ∨ i = 1 := by omega
            rcases this with rfl | rfl <;> rfl
          refine G.or2 ?_ ?_
          · refine Gs.buildSlice (by decide) ?_
            intro q0
            refine Gs.freezeE (v := .slice (some ⟨q0, 0, none⟩) 2 2) (enc := eStr) (l := [nameA, nameB]) (by decide) ?_
            intro h3 hle3 r3
            repeat (first | refine G.withT ?_ | refine Gs.withb ?_)
            refine Gs.qindexE r3 (show i < [nameA, nameB].length from hi2) ?_
            intro pb po hpt
            refine Gs.qloadE hpt ?_
            rw [hnm2]
            (repeat (first | (refine Gs.alloc ?_; intro _) | refine G.qkp ?_ | refine G.withT ?_))
            repeat (first | refine G.withT ?_ | refine Gs.withb ?_ | refine Gs.withf (Hle.refl _) ?_)
            (repeat (refine Gs.store ?_))
            exact hk7 _ _ ⟨h3, _, _, rfl, hle3, rfl⟩
          · (repeat (first | (refine Gs.alloc ?_; intro _) | refine G.withT ?_ | refine Gs.withb ?_))
            refine Gs.buildSlice (by decide) ?_
            intro q0
            refine Gs.freezeE (v := .slice (some ⟨q0, 0, none⟩) 2 2) (enc := eStr) (l := [nameA, nameB]) (by decide) ?_
            intro h3 hle3 r3
            repeat (first | refine G.withT ?_ | refine Gs.withb ?_)
            refine Gs.qindexE r3 (show i < [nameA, nameB].length from hi2) ?_
            intro pb po hpt
            refine Gs.qloadE hpt ?_
            rw [hnm2]
            (repeat (first | refine Gs.store ?_ | refine G.qkp ?_))
            exact hk7 _ _ ⟨h3, _, _, rfl, hle3, rfl⟩
      · have hin : i = nk := by omega
        subst hin
        clear hc
        refine Gs.freezeE (v := slv qk) (enc := eKd) (l := ys) (by decide) ?_
        intro h3 hle3 r3
        have hK : RdF h3 (slv qk) eKd 3 kdR ks := ⟨ys, r3, All2.monoR hle3 hal⟩
        have hGK : GoodK next.length rr ks := ⟨by omega, by omega, hnm, fun k hk => (hkp k hk).1, fun k hk p hp => by rw [hkl]; exact (hkp k hk).2 p hp⟩
        have hx3 := hx2.mono hle3
        have hbd3 := hbd2.mono hle3
        clear hkp hnm hal hx2 hbd2
        refine G.jnk (fun _ S' => ∃ bl : Int, isRes bl ∧ S' = St w0 h h3 [.blk gb [I n, slv a, slv b, slv qk, I rr, .bool mu, .slice none 0 0, I bl, I 2] 39, .blk tb [I 0, .slice none 0 0, .slice none 0 0, .slice none 0 0, I 0, .bool false, .slice none 0 0, I 0, I 0] 39, .blk xb (eRg x) 27]) ?_ ?_
        · rintro _ _ ⟨bl, hbl, rfl⟩
          refine G.jk ?_; intro _
          refine G.jnk (fun _ S' => ∃ en : Int, isRes en ∧ S' = St w0 h h3 [.blk gb [I n, slv a, slv b, slv qk, I rr, .bool mu, .slice none 0 0, I bl, I en] 39, .blk tb [I 0, .slice none 0 0, .slice none 0 0, .slice none 0 0, I 0, .bool false, .slice none 0 0, I 0, I 0] 39, .blk xb (eRg x) 27]) ?_ ?_
          · rintro _ _ ⟨en, hen, rfl⟩
            refine G.jk ?_; intro _
            refine Gs.nilsl 89 4 ?_
            refine Gs.sel (L' := [.blk gb [I n, slv a, slv b, slv qk, I rr, .bool mu, .slice none 0 0, I bl, I en] 39, .sl (.slice none 0 0) 89 4 [], .blk tb [I 0, .slice none 0 0, .slice none 0 0, .slice none 0 0, I 0, .bool false, .slice none 0 0, I 0, I 0] 39, .blk xb (eRg x) 27]) ?_
            refine Gs.lp (β := Nat × SlH × List ClH) (fun u => I u.1) (fun u => h3) (fun u => [.blk gb [I n, slv a, slv b, slv qk, I rr, .bool mu, slv u.2.1, I bl, I en] 39, .sl (slv u.2.1) 89 4 (fl eCl u.2.2), .blk tb [I 0, .slice none 0 0, .slice none 0 0, .slice none 0 0, I 0, .bool false, .slice none 0 0, I 0, I 0] 39, .blk xb (eRg x) 27]) (fun u => u.1 ≤ 3 ∧ u.1 ≤ C.length ∧ u.2.2.length = u.1 ∧ (∀ c ∈ u.2.2, rightC n i c)) (fun u => 3 - u.1) (0, (none, 0, 0), []) rfl ⟨Nat.zero_le _, Nat.zero_le _, rfl, fun k hk => by simp at hk⟩ (fun _ s => s) ?_
            rintro ⟨m, qc, cl⟩ ⟨hm3, hmc, hcl, hcr⟩ cont hc
            dsimp only at *
            (repeat (refine G.jk ?_; intro _))
            refine G.jnP (fun j => j = .bool (decide (m < C.length ∧ m < 3))) ?_ ?_
            · rintro j rfl
              refine G.jk ?_; intro _
              refine G.ifd ?_ ?_ <;> intro hlt2
              · (repeat (first | refine Gs.dr ?_ | refine G.qkp ?_ | refine Gs.qkb ?_))
                refine Gs.qindexE hx3.cs hlt2.1 ?_
                intro pb po hpt
                have c0 := u8lt C[m].1
                have c1 := u8lt C[m].2.1
                have c2 := u8lt C[m].2.2
                refine G.qkp ?_
                refine Gs.qloadP1 hpt ?_
                refine G.qconv (by omega) ?_
                refine G.qremN (by omega) (by omega) ?_
                (repeat (first | refine G.qadd (by omega) ?_ | refine G.qkp ?_ | refine Gs.qkb ?_))
                refine Gs.qindexE hx3.cs hlt2.1 ?_
                intro pb' po' hpt'
                refine G.qkp ?_
                refine Gs.qloadP1 hpt' ?_
                refine G.qquo8 (by omega) (by omega) ?_
                refine G.qconv (by omega) ?_
                refine G.qremN (by omega) (by omega) ?_
                (repeat (first | (refine Gs.alloc ?_; intro _) | refine G.qadd (by omega) ?_ | refine G.qkp ?_ | refine G.withT ?_))
                repeat (first | refine G.withT ?_ | refine Gs.withb ?_ | refine Gs.withf (Hle.refl _) ?_)
                (repeat (refine Gs.store ?_))
                rename_i cb
                have hth : isRes (1 + (C[m].1.toNat : Int) / 4 % 3) := by unfold isRes; omega
                have hif : 1 ≤ 1 + (C[m].1.toNat : Int) % 3 ∧ 1 + (C[m].1.toNat : Int) % 3 ≤ 3 := by omega
                generalize 1 + (C[m].1.toNat : Int) / 4 % 3 = th at *
                generalize 1 + (C[m].1.toNat : Int) % 3 = fi at *
                refine G.jnk (fun _ S' => ∃ kd : Int, ((fi ≠ 3 ∧ 0 ≤ kd ∧ kd < i) ∨ (fi = 3 ∧ kd = 0)) ∧ S' = St w0 h h3 [.blk cb [I fi, I kd, I 0, I th] 89, .blk gb [I n, slv a, slv b, slv qk, I rr, .bool mu, slv qc, I bl, I en] 39, .sl (slv qc) 89 4 (fl eCl cl), .blk tb [I 0, .slice none 0 0, .slice none 0 0, .slice none 0 0, I 0, .bool false, .slice none 0 0, I 0, I 0] 39, .blk xb (eRg x) 27]) ?_ ?_
                · rintro _ _ ⟨kd, hkd, rfl⟩
                  refine G.jk ?_; intro _
                  refine G.jnk (fun _ S' => ∃ nn : Int, ((fi = 2 ∧ 0 ≤ nn ∧ nn < n) ∨ (fi ≠ 2 ∧ nn = 0)) ∧ S' = St w0 h h3 [.blk cb [I fi, I kd, I nn, I th] 89, .blk gb [I n, slv a, slv b, slv qk, I rr, .bool mu, slv qc, I bl, I en] 39, .sl (slv qc) 89 4 (fl eCl cl), .blk tb [I 0, .slice none 0 0, .slice none 0 0, .slice none 0 0, I 0, .bool false, .slice none 0 0, I 0, I 0] 39, .blk xb (eRg x) 27]) ?_ ?_
                  · rintro _ _ ⟨nn, hnn, rfl⟩
                    refine G.jk ?_; intro _
                    refine G.jnk (fun _ S' => ∃ nn : Int, rightC n i (fi, kd, nn, th) ∧ S' = St w0 h h3 [.blk cb [I fi, I kd, I nn, I th] 89, .blk gb [I n, slv a, slv b, slv qk, I rr, .bool mu, slv qc, I bl, I en] 39, .sl (slv qc) 89 4 (fl eCl cl), .blk tb [I 0, .slice none 0 0, .slice none 0 0, .slice none 0 0, I 0, .bool false, .slice none 0 0, I 0, I 0] 39, .blk xb (eRg x) 27]) ?_ ?_
                    · rintro _ _ ⟨nn, hrc, rfl⟩
                      refine G.jk ?_; intro _
                      (repeat (refine G.step ?_))
                      refine Gs.buildSlice (by decide) ?_
                      intro q1
                      skip
                      refine Gs.appendO (enc := eCl) (l := cl) (m := [(fi, kd, nn, th)]) (e2 := 89) (by simp [fl]) (by simp; omega) (by simp; omega) ?_
                      intro v6
                      refine Gs.slH (v := v6) ?_
                      rintro q6 rfl
                      (repeat (first | refine G.add (by omega) ?_ | refine G.step ?_ | refine Gs.store ?_))
                      exact Gs.goS (hc (m + 1, q6, cl ++ [(fi, kd, nn, th)]) ⟨by dsimp only; omega, by dsimp only; omega, by simp [hcl], fun c hc => by
                        rcases List.mem_append.1 hc with hc | hc
                        · exact hcr c hc
                        · rw [List.mem_singleton.1 hc]; exact hrc⟩ (by dsimp only; omega)) rfl
                    · intro k87 hk87
                      (repeat (refine G.step ?_))
                      refine G.ifd ?_ ?_ <;> intro h3'
                      · (repeat (refine G.step ?_))
                        refine Gs.indexE hx3.cs hlt2.1 ?_
                        intro pb3 po3 hpt3
                        refine G.ixN (i := 2) (n := 3) (by omega) ?_
                        refine Gs.loadP1 (hpt3.field (c := 2)) ?_
                        refine G.conv (by omega) ?_
                        refine G.rem (by omega) ?_
                        rw [Int.tmod_eq_emod_of_nonneg (by omega)]
                        (repeat (first | refine G.step ?_ | refine Gs.store ?_))
                        exact hk87 _ _ ⟨_, ⟨hth, by dsimp only; omega⟩, rfl⟩
                      · exact hk87 _ _ ⟨nn, ⟨hth, by dsimp only; omega⟩, rfl⟩
                  · intro k86 hk86
                    (repeat (refine G.step ?_))
                    refine G.ifd ?_ ?_ <;> intro h2'
                    · (repeat (first | refine Gs.dr ?_ | refine G.qkp ?_ | refine Gs.qkb ?_))
                      refine Gs.qindexE hx3.cs hlt2.1 ?_
                      intro pb3 po3 hpt3
                      refine G.qixN (i := 2) (n := 3) (by omega) ?_
                      refine Gs.qloadP1 (hpt3.field (c := 2)) ?_
                      refine G.qconv (by omega) ?_
                      (repeat (first | refine G.qkp ?_ | refine Gs.qkb ?_))
                      refine G.qremN (by omega) (by omega) ?_
                      (repeat (first | refine Gs.store ?_ | refine G.qkp ?_))
                      have hm0 := Int.emod_nonneg ((C[m].2.2.toNat : Int)) (show (n : Int) ≠ 0 by omega)
                      have hm1 := Int.emod_lt_of_pos ((C[m].2.2.toNat : Int)) (show (0 : Int) < n by omega)
                      exact hk86 _ _ ⟨_, .inl ⟨h2', hm0, hm1⟩, rfl⟩
                    · exact hk86 _ _ ⟨0, .inr ⟨h2', rfl⟩, rfl⟩
                · intro k85 hk85
                  (repeat (refine G.step ?_))
                  refine G.ifd ?_ ?_ <;> intro h3'
                  · (repeat (refine G.step ?_))
                    refine Gs.indexE hx3.cs hlt2.1 ?_
                    intro pb3 po3 hpt3
                    refine G.ixN (i := 1) (n := 3) (by omega) ?_
                    refine Gs.loadP1 (hpt3.field (c := 1)) ?_
                    refine G.conv (by omega) ?_
                    refine G.rem (by omega) ?_
                    rw [Int.tmod_eq_emod_of_nonneg (by omega)]
                    (repeat (first | refine G.step ?_ | refine Gs.store ?_))
                    have hm0 := Int.emod_nonneg ((C[m].2.1.toNat : Int)) (show (i : Int) ≠ 0 by omega)
                    have hm1 := Int.emod_lt_of_pos ((C[m].2.1.toNat : Int)) (show (0 : Int) < i by omega)
                    exact hk85 _ _ ⟨_, .inl ⟨h3', hm0, hm1⟩, rfl⟩
                  · exact hk85 _ _ ⟨0, .inr ⟨by omega, rfl⟩, rfl⟩
              · refine Gs.freezeE (v := slv qc) (enc := eCl) (l := cl) (by decide) ?_
                intro h4 hle4 r4
                (repeat (first | refine G.step ?_ | refine Gs.store ?_ | refine G.retc ?_))
                exact Gs.ret ⟨(a, b, qk, qc), ⟨n, next, turn, ks, rr, mu, cl, bl, en⟩, rfl, ⟨hbd3.rn.mono hle4, hbd3.rt.mono hle4, hK.mono hle4, r4⟩, ⟨hbd3.g, hGK, hrr, by show cl.length ≤ 3; omega, fun c hc => by have := hcr c hc; show rightC n ks.length c; rw [hkl]; exact this, hbl, hen⟩⟩
            · intro K hK
              (repeat (refine G.step ?_))
              refine Gs.lenE hx3.cs (by omega) ?_
              (repeat (refine G.step ?_))
              refine G.gddt ?_ ?_ <;> intro hlt2
              · (repeat (refine G.step ?_))
                exact hK _ (by congr 1; rw [decide_eq_decide]; omega)
              · exact hK _ (by rw [decide_eq_false (by omega)])
          · intro k62 hk62
            (repeat (refine G.step ?_))
            refine G.rem8 (by omega) (by omega) ?_
            (repeat (refine G.step ?_))
            refine G.ifd ?_ ?_ <;> intro hq
            · (repeat (refine G.step ?_))
              refine G.quo8 (by omega) (by omega) ?_
              refine G.conv (by omega) ?_
              refine G.rem (by omega) ?_
              rw [Int.tmod_eq_emod_of_nonneg (by omega)]
              (repeat (first | refine G.add (by omega) ?_ | refine G.step ?_ | refine Gs.store ?_))
              exact hk62 _ _ ⟨_, by unfold isRes; omega, rfl⟩
            · exact hk62 _ _ ⟨2, by unfold isRes; omega, rfl⟩
        · intro k61 hk61
          (repeat (refine G.step ?_))
          refine G.rem8 (by omega) (by omega) ?_
          (repeat (refine G.step ?_))
          refine G.ifd ?_ ?_ <;> intro hq
          · (repeat (refine G.step ?_))
            refine G.quo8 (by omega) (by omega) ?_
            refine G.conv (by omega) ?_
            refine G.rem (by omega) ?_
            rw [Int.tmod_eq_emod_of_nonneg (by omega)]
            (repeat (first | refine G.add (by omega) ?_ | refine G.step ?_ | refine Gs.store ?_))
            exact hk61 _ _ ⟨_, by unfold isRes; omega, rfl⟩
          · exact hk61 _ _ ⟨3, by unfold isRes; omega, rfl⟩
    · intro K hK
      (repeat (refine G.step ?_))
      refine Gs.lenE hx1.k1 (by omega) ?_
      (repeat (refine G.step ?_))
      refine G.ifd ?_ ?_ <;> intro hq
      · exact hK _ ⟨2, rfl, by omega, by omega⟩
      · exact hK _ ⟨1, rfl, by omega, by omega⟩
  · intro k' hk'
    (repeat (first | refine Gs.dr ?_ | refine G.qkp ?_ | refine Gs.qkb ?_))
    rw [wrap_in (by omega)]
    refine G.qremN (by omega) (by omega) ?_
    (repeat (first | refine G.qkp ?_ | refine Gs.qkb ?_))
    refine G.qrem8 (by omega) (by omega) ?_
    refine G.qkp ?_
    obtain ⟨rr, hrr, hrr2⟩ : ∃ rr : Nat, ((x.f 0).toNat : Int) % 3 = rr ∧ rr ≤ 2 := ⟨(x.f 0).toNat % 3, by simp, by omega⟩
    rw [hrr]
    refine G.or2 ?_ ?_
    · refine Gs.call0 (made1_ok x.w x.h x.cut h) ?_
      rintro _ h1 hle1 ⟨n, a, b, next, turn, rfl, hb⟩
      (repeat (first | (refine Gs.alloc ?_; intro _) | refine Gs.store ?_ | refine G.qkp ?_ | refine G.withT ?_ | refine Gs.withb ?_))
      exact hk' _ _ ⟨h1, _, n, a, b, next, turn, rr, _, rfl, hle1, hb, hrr2, rfl⟩
    · (repeat (first | (refine Gs.alloc ?_; intro _) | refine G.withT ?_ | refine Gs.withb ?_))
      refine Gs.call0 (made1_ok x.w x.h x.cut h) ?_
      rintro _ h1 hle1 ⟨n, a, b, next, turn, rfl, hb⟩
      (repeat (first | refine Gs.store ?_ | refine G.qkp ?_ | refine G.withT ?_ | refine Gs.withb ?_))
      exact hk' _ _ ⟨h1, _, n, a, b, next, turn, rr, _, rfl, hle1, hb, hrr2, rfl⟩
end Go.Proofs.YtcmokdokcghooaaGreatDoor
end

