/-
  Lemmas for the proof of the statement of this claim: a part of the road, no statement of its own. Conditions: those that each lemma names.
-/
import Derived.Test.YtnepdmnkhjpnhaaKs
section
/-
  Loopy games: how graphs and spots lie in memory.
-/
set_option linter.unusedVariables false
set_option linter.unusedSimpArgs false
set_option linter.unusedSectionVars false
set_option maxHeartbeats 4000000
namespace Go.Proofs.Ytnepdmnkhjpnhaa
open Go Go.Sk Go.Lp Go.RowKit
variable {M : Go.Sk.Mode}
abbrev eSp : Sp → List Value := fun s => [I s.1, I s.2.1, I s.2.2]
instance encSp : Enc eSp 3 := ⟨fun _ => rfl, fun a v h => by
  simp only [eSp, List.mem_cons, List.not_mem_nil, or_false] at h
  rcases h with rfl | rfl | rfl <;> rfl⟩
abbrev vSp (s : Sp) : Value := .agg #[I s.1, I s.2.1, I s.2.2]
instance ldSp : LdE Try.prog 30 eSp (fun s => vSp s) := LdE.agg
instance keySp : KeyT Try.prog 30 (fun s : Sp => vSp s) := KeyT.ints (fun s : Sp => [s.1, s.2.1, s.2.2]) (fun a b h => by
  obtain ⟨a1, a2, a3⟩ := a
  obtain ⟨b1, b2, b3⟩ := b
  simp at h
  simp [h]) (fun _ => rfl) (by kernel_rfl) (by kernel_rfl)
abbrev kSp : Sp → Value := fun s => vSp s
abbrev vI : Int → Value := fun n => I n
def rI (h : Hp) (x : SlH) (l : List Int) : Prop := RdE h (slv x) eInt 1 l
instance : RelM rI := ⟨fun hle h => RdE.mono hle h⟩
abbrev GrH := SlH × SlH
abbrev vG (x : GrH) : Value := .agg #[slv x.1, slv x.2]
structure GrR (h : Hp) (x : GrH) (g : Gr) : Prop where
  l : RdF h (slv x.1) eSlH 1 rI g.L
  r : RdF h (slv x.2) eSlH 1 rI g.R
theorem GrR.mono {h h' : Hp} {x : GrH} {g : Gr} (hle : Hle h h') (hx : GrR h x g) : GrR h' x g := ⟨hx.l.mono hle, hx.r.mono hle⟩
/-- Not too large for the machine. -/
structure GS (g : Gr) : Prop where
  l : g.L.length ≤ 4611686018427387904
  r : g.R.length ≤ 4611686018427387904
  ol : ∀ l ∈ g.L, l.length ≤ 4611686018427387904
  or : ∀ l ∈ g.R, l.length ≤ 4611686018427387904
theorem GS.of {g : Gr} (h : GV g) : GS g := ⟨by have := h.l1; omega, by have := h.l1; have := h.lr; omega, fun l hl => by have := (h.ol l hl).1; omega, fun l hl => by have := (h.or l hl).1; omega⟩

theorem validSpot_ok (g : Gr) (x : GrH) (s : Sp) (h : Hp) (hx : GrR h x g) (hs : GS g) : Ct Try.prog 42 [vG x, vSp s] h (fun _ v => v = .bool (decide (SN g 16 s))) := by
  refine ct42 ?_
  intro w0
  unfold s42
  have h1 := hs.l
  (repeat (first | refine G.step ?_ | (refine Gs.box ?_; intro _)))
  refine G.gddt ?_ ?_ <;> intro c1
  · (repeat (refine G.step ?_))
    refine Gs.lenF hx.l (by omega) ?_
    (repeat (refine G.step ?_))
    refine G.gddt ?_ ?_ <;> intro c2
    · (repeat (refine G.step ?_))
      refine G.gddt ?_ ?_ <;> intro c3
      · (repeat (refine G.step ?_))
        refine G.gddt ?_ ?_ <;> intro c4
        · (repeat (refine G.step ?_))
          refine G.gddf ?_ ?_ <;> intro c5
          · exact Gs.ret (by rw [decide_eq_true]; exact ⟨c1, c2, c3, c4, .inl c5⟩)
          · (repeat (refine G.step ?_))
            exact Gs.ret (by congr 1; rw [decide_eq_decide]; unfold SN; omega)
        · exact Gs.ret (by rw [decide_eq_false]; unfold SN; omega)
      · exact Gs.ret (by rw [decide_eq_false]; unfold SN; omega)
    · exact Gs.ret (by rw [decide_eq_false]; unfold SN; omega)
  · exact Gs.ret (by rw [decide_eq_false]; unfold SN; omega)
theorem spotR_ok (g : Gr) (x : GrH) (s : Sp) (h : Hp) (hx : GrR h x g) (hs : GS g) : Ct Try.prog 33 [vG x, vSp s] h (fun _ v => v = .bool (decide (SN g 16 s))) := by
  refine ct33 ?_
  intro w0
  unfold s33
  have h1 := hs.l
  (repeat (first | refine G.step ?_ | (refine Gs.box ?_; intro _)))
  refine G.gddt ?_ ?_ <;> intro c1
  · (repeat (refine G.step ?_))
    refine Gs.lenF hx.l (by omega) ?_
    (repeat (refine G.step ?_))
    refine G.gddt ?_ ?_ <;> intro c2
    · (repeat (refine G.step ?_))
      refine G.gddt ?_ ?_ <;> intro c3
      · (repeat (refine G.step ?_))
        refine G.gddt ?_ ?_ <;> intro c4
        · (repeat (refine G.step ?_))
          refine G.gddf ?_ ?_ <;> intro c5
          · exact Gs.ret (by rw [decide_eq_true]; exact ⟨c1, c2, c3, c4, .inl c5⟩)
          · (repeat (refine G.step ?_))
            exact Gs.ret (by congr 1; rw [decide_eq_decide]; unfold SN; omega)
        · exact Gs.ret (by rw [decide_eq_false]; unfold SN; omega)
      · exact Gs.ret (by rw [decide_eq_false]; unfold SN; omega)
    · exact Gs.ret (by rw [decide_eq_false]; unfold SN; omega)
  · exact Gs.ret (by rw [decide_eq_false]; unfold SN; omega)
end Go.Proofs.Ytnepdmnkhjpnhaa
end

section
set_option linter.unusedVariables false
set_option linter.unusedSimpArgs false
set_option linter.unusedSectionVars false
set_option maxHeartbeats 4000000
namespace Go.Proofs.Ytnepdmnkhjpnhaa
open Go Go.Sk Go.Lp Go.RowKit
variable {M : Go.Sk.Mode}
theorem mv_split (g : Gr) (s : Sp) : mv g s = (opts g s).map (fun m => (m, s.2.1, 1 - s.2.2)) ++ (if 0 < s.2.1 * stp s then [(s.1, s.2.1 - stp s, 1 - s.2.2)] else []) := rfl
theorem opts_nat {g : Gr} {n : Nat} {k w : Int} (hl : n < g.L.length) (hr : n < g.R.length) : opts g ((n : Int), k, w) = if w = 1 then g.R[n] else g.L[n] := by
  unfold opts
  simp only [Int.toNat_natCast]
  split
  · rw [List.getElem?_eq_getElem hr]; rfl
  · rw [List.getElem?_eq_getElem hl]; rfl
theorem moves_okN (g : Gr) (x : GrH) (n : Nat) (k w : Int) (h : Hp) (hx : GrR h x g) (hg : GV g) (hn : n < g.L.length) (hk : -16 ≤ k ∧ k ≤ 16) (hw : w = 0 ∨ w = 1) : Ct Try.prog 43 [vG x, vSp ((n : Int), k, w)] h (fun h' y => ∃ q : SlH, y = slv q ∧ RdE h' (slv q) eSp 3 (mv g ((n : Int), k, w))) := by
  refine ct43 ?_
  intro w0
  unfold s43
  have hnr : n < g.R.length := by have := hg.lr; omega
  have hol := opts_mem hg (s := ((n : Int), k, w)) ⟨by dsimp only; omega, by dsimp only; omega⟩
  (repeat (first | refine G.step ?_ | (refine Gs.box ?_; intro _)))
  rename_i xb sb
  refine Gs.indexF hx.l hn ?_
  intro b1 o1 x1 hp1 hx1
  refine Gs.loadE hp1 ?_
  refine G.jnP (fun j : Value × Value => ∃ q : SlH, j = (slv q, I (stp ((n : Int), k, w))) ∧ rI h q (opts g ((n : Int), k, w))) ?_ ?_
  · rintro _ ⟨q, rfl, hq⟩
    refine G.jk ?_; intro _
    dsimp only
    generalize hol' : opts g ((n : Int), k, w) = ol at *
    refine Gs.lenE hq (by omega) ?_
    refine Gs.nilsl 30 3 ?_
    refine Gs.lp (β := Nat × SlH) (fun u => (slv u.2, I u.1)) (fun _ => h) (fun u => [.sl (slv u.2) 30 3 (fl eSp ((ol.take u.1).map fun m => (m, k, 1 - w))), .blk sb [I n, I k, I w] 30, .blk xb [slv x.1, slv x.2] 27]) (fun u => u.1 ≤ ol.length) (fun u => ol.length - u.1) (0, (none, 0, 0)) rfl (Nat.zero_le _) (fun _ s => s) ?_
    rintro ⟨i, v⟩ hi cont hc
    dsimp only at *
    have hlen : ((ol.take i).map fun m => (m, k, 1 - w)).length = i := by simp; omega
    (repeat (first | refine G.step ?_ | (refine G.jk ?_; intro _)))
    refine G.ifd ?_ ?_ <;> intro hlt
    · refine Gs.indexE hq (by omega) ?_
      intro b2 o2 hp2
      refine Gs.loadE hp2 ?_
      (repeat (first | refine G.sub (by omega) ?_ | refine G.step ?_))
      refine Gs.push (enc := eSp) (a := (ol[i], k, 1 - w)) (by decide) (by decide) (by rw [hlen]; omega) (by rw [hlen]; omega) ?_
      intro s' v'
      refine Gs.slH (v := v') ?_
      rintro q' rfl
      (repeat (refine G.add (by omega) ?_))
      refine Gs.go (t' := (slv q', I ((i + 1 : Nat) : Int))) ?_ (by simp)
      have := hc (i + 1, q') (by omega) (by omega)
      rw [List.take_succ_eq_append_getElem (show i < ol.length by omega), List.map_append] at this
      exact this
    · have hi' : i = ol.length := by omega
      subst hi'
      rw [List.take_length] at *
      have hst : stp ((n : Int), k, w) = 1 ∨ stp ((n : Int), k, w) = -1 := by unfold stp; split <;> simp
      have hmul : -16 ≤ k * stp ((n : Int), k, w) ∧ k * stp ((n : Int), k, w) ≤ 16 := by rcases hst with e | e <;> rw [e] <;> omega
      have hsp := mv_split g ((n : Int), k, w)
      rw [hol'] at hsp
      (repeat (first | refine G.mul (by omega) ?_ | refine G.step ?_))
      refine G.ifd ?_ ?_ <;> intro hpos
      · (repeat (first | refine G.sub (by omega) ?_ | refine G.step ?_))
        refine Gs.push (enc := eSp) (a := ((n : Int), k - stp ((n : Int), k, w), 1 - w)) (by decide) (by decide) (by rw [hlen]; omega) (by rw [hlen]; omega) ?_
        intro s' v'
        refine Gs.slH (v := v') ?_
        rintro q' rfl
        refine Gs.freezeE (enc := eSp) (v := slv q') (by omega) ?_
        intro h' hle hr
        refine Gs.ret ⟨q', rfl, ?_⟩
        rw [hsp, if_pos hpos]
        exact hr
      · refine Gs.freezeE (enc := eSp) (v := slv v) (by omega) ?_
        intro h' hle hr
        refine Gs.ret ⟨v, rfl, ?_⟩
        rw [hsp, if_neg hpos, List.append_nil]
        exact hr
  · intro K hK
    (repeat (refine G.step ?_))
    refine G.ifd ?_ ?_ <;> intro h1
    · (repeat (refine G.step ?_))
      refine Gs.indexF hx.r hnr ?_
      intro b2 o2 x2 hp2 hx2
      refine Gs.loadE hp2 ?_
      exact hK _ ⟨x2, by simp [stp, show w = 1 from h1], by rw [opts_nat hn hnr, if_pos h1]; exact hx2⟩
    · exact hK _ ⟨x1, by simp [stp, show ¬ w = 1 from h1], by rw [opts_nat hn hnr, if_neg h1]; exact hx1⟩
theorem moves_ok (g : Gr) (x : GrH) (s : Sp) (h : Hp) (hx : GrR h x g) (hg : GV g) (hs : SN g 16 s) : Ct Try.prog 43 [vG x, vSp s] h (fun h' y => ∃ q : SlH, y = slv q ∧ RdE h' (slv q) eSp 3 (mv g s)) := by
  obtain ⟨a, k, w⟩ := s
  obtain ⟨h1, h2, h3, h4, h5⟩ := hs
  dsimp only at *
  obtain ⟨n, rfl⟩ : ∃ n : Nat, a = n := ⟨a.toNat, by omega⟩
  exact moves_okN g x n k w h hx hg (by omega) ⟨h3, h4⟩ h5
end Go.Proofs.Ytnepdmnkhjpnhaa
end

section
set_option linter.unusedVariables false
set_option linter.unusedSimpArgs false
set_option linter.unusedSectionVars false
set_option maxHeartbeats 4000000
namespace Go.Proofs.Ytnepdmnkhjpnhaa
open Go Go.Sk Go.Lp Go.RowKit
variable {M : Go.Sk.Mode}
theorem movesR_okN (g : Gr) (x : GrH) (n : Nat) (k w : Int) (h : Hp) (hx : GrR h x g) (hg : GV g) (hn : n < g.L.length) (hk : -16 ≤ k ∧ k ≤ 16) (hw : w = 0 ∨ w = 1) : Ct Try.prog 25 [vG x, vSp ((n : Int), k, w)] h (fun h' y => ∃ q : SlH, y = slv q ∧ RdE h' (slv q) eSp 3 (mv g ((n : Int), k, w))) := by
  refine ct25 ?_
  intro w0
  unfold s25
  have hnr : n < g.R.length := by have := hg.lr; omega
  have hol := opts_mem hg (s := ((n : Int), k, w)) ⟨by dsimp only; omega, by dsimp only; omega⟩
  (repeat (first | (refine Gs.box ?_; intro _) | refine Gs.dr ?_ | refine G.qkp ?_ | refine Gs.qkb ?_))
  rename_i xb sb
  refine Gs.qindexF hx.l hn ?_
  intro b1 o1 x1 hp1 hx1
  refine Gs.qloadE hp1 ?_
  refine Gs.buildSlice (out := []) (by decide) ?_
  intro eb
  refine Gs.withf (Hle.refl h) ?_
  (repeat (first | refine G.withT ?_ | refine Gs.withb ?_))
  refine G.jnP (fun j : Value => ∃ q : SlH, j = slv q ∧ rI h q (opts g ((n : Int), k, w))) ?_ ?_
  · rintro _ ⟨q, rfl, hq⟩
    refine G.jk ?_; intro _
    generalize hol' : opts g ((n : Int), k, w) = ol at *
    refine Gs.lp (β := Nat × SlH) (fun u => (slv u.2, I u.1)) (fun _ => h) (fun u => [.sl (slv u.2) 30 3 (fl eSp ((ol.take u.1).map fun m => (m, k, 1 - w))), .blk sb [I n, I k, I w] 30, .blk xb [slv x.1, slv x.2] 27]) (fun u => u.1 ≤ ol.length) (fun u => ol.length - u.1) (0, (some ⟨eb, 0, none⟩, 0, 0)) rfl (Nat.zero_le _) (fun _ s => s) ?_
    rintro ⟨i, v⟩ hi cont hc
    dsimp only at *
    have hlen : ((ol.take i).map fun m => (m, k, 1 - w)).length = i := by simp; omega
    (repeat (refine G.jk ?_; intro _))
    refine Gs.lenE hq (by omega) ?_
    (repeat (refine G.step ?_))
    refine G.ifd ?_ ?_ <;> intro hlt
    · (repeat (refine Gs.dr ?_))
      refine Gs.qindexE hq (by omega) ?_
      intro b2 o2 hp2
      refine Gs.qloadE hp2 ?_
      (repeat (first | refine G.qsub (by omega) ?_ | refine G.qkp ?_ | refine Gs.qkb ?_))
      refine Gs.push (enc := eSp) (a := (ol[i], k, 1 - w)) (by decide) (by decide) (by rw [hlen]; omega) (by rw [hlen]; omega) ?_
      intro s' v'
      refine Gs.slH (v := v') ?_
      rintro q' rfl
      (repeat (refine G.add (by omega) ?_))
      refine Gs.go (t' := (slv q', I ((i + 1 : Nat) : Int))) ?_ (by simp)
      have := hc (i + 1, q') (by omega) (by omega)
      rw [List.take_succ_eq_append_getElem (show i < ol.length by omega), List.map_append] at this
      exact this
    · have hi' : i = ol.length := by omega
      subst hi'
      rw [List.take_length] at *
      have hsp := mv_split g ((n : Int), k, w)
      rw [hol'] at hsp
      refine G.jnk (fun a S' => ∃ q' : SlH, a = slv q' ∧ S' = St w0 h h [.sl (slv q') 30 3 (fl eSp ((ol.map fun m => (m, k, 1 - w)) ++ (if w = 0 ∧ 0 < k then [((n : Int), k - 1, 1)] else []))), .blk sb [I n, I k, I w] 30, .blk xb [slv x.1, slv x.2] 27]) ?_ ?_
      · rintro _ _ ⟨q', rfl, rfl⟩
        refine G.jk ?_; intro _
        refine G.jnP (fun j => j = .bool (decide (w = 1 ∧ k < 0))) ?_ ?_
        · rintro _ rfl
          refine G.jk ?_; intro _
          refine G.ifd ?_ ?_ <;> intro hpos
          · (repeat (first | refine G.add (by omega) ?_ | refine G.step ?_))
            rw [if_neg (by omega), List.append_nil]
            refine Gs.push (enc := eSp) (a := ((n : Int), k + 1, 0)) (by decide) (by decide) (by rw [hlen]; omega) (by rw [hlen]; omega) ?_
            intro s' v'
            refine Gs.slH (v := v') ?_
            rintro q2 rfl
            refine Gs.freezeE (enc := eSp) (v := slv q2) (by decide) ?_
            intro h' hle hr
            refine Gs.ret ⟨q2, rfl, ?_⟩
            rw [hsp]
            simp only [stp, hpos.1, if_true] at hr ⊢
            rw [if_pos (by omega)]
            have e : k - -1 = k + 1 := by omega
            rw [e]
            exact hr
          · refine Gs.freezeE (enc := eSp) (v := slv q') (by decide) ?_
            intro h' hle hr
            refine Gs.ret ⟨q', rfl, ?_⟩
            rw [hsp]
            rcases hw with e | e
            · subst e
              simp [stp] at hr ⊢
              exact hr
            · subst e
              simp [stp] at hr ⊢
              rw [if_neg (by omega)]
              simpa using hr
        · intro K hK
          (repeat (refine G.step ?_))
          refine G.gddt ?_ ?_ <;> intro c1
          · (repeat (refine G.step ?_))
            exact hK _ (by congr 1; rw [decide_eq_decide]; omega)
          · exact hK _ (by rw [decide_eq_false]; omega)
      · intro k' hk'
        refine G.jnP (fun j => j = .bool (decide (w = 0 ∧ 0 < k))) ?_ ?_
        · rintro _ rfl
          refine G.jk ?_; intro _
          refine G.ifd ?_ ?_ <;> intro hpos
          · (repeat (first | refine G.sub (by omega) ?_ | refine G.step ?_))
            refine Gs.push (enc := eSp) (a := ((n : Int), k - 1, 1)) (by decide) (by decide) (by rw [hlen]; omega) (by rw [hlen]; omega) ?_
            intro s' v'
            refine Gs.slH (v := v') ?_
            rintro q2 rfl
            refine hk' _ _ ⟨q2, rfl, ?_⟩
            rw [if_pos hpos]
          · refine hk' _ _ ⟨v, rfl, ?_⟩
            rw [if_neg hpos, List.append_nil]
        · intro K hK
          (repeat (refine G.step ?_))
          refine G.gddt ?_ ?_ <;> intro c1
          · (repeat (refine G.step ?_))
            exact hK _ (by congr 1; rw [decide_eq_decide]; omega)
          · exact hK _ (by rw [decide_eq_false]; omega)
  · intro K hK
    (repeat (refine G.step ?_))
    refine G.ifd ?_ ?_ <;> intro h1
    · (repeat (refine G.step ?_))
      refine Gs.indexF hx.r hnr ?_
      intro b2 o2 x2 hp2 hx2
      refine Gs.loadE hp2 ?_
      exact hK _ ⟨x2, rfl, by rw [opts_nat hn hnr, if_pos h1]; exact hx2⟩
    · exact hK _ ⟨x1, rfl, by rw [opts_nat hn hnr, if_neg h1]; exact hx1⟩
theorem movesR_ok (g : Gr) (x : GrH) (s : Sp) (h : Hp) (hx : GrR h x g) (hg : GV g) (hs : SN g 16 s) : Ct Try.prog 25 [vG x, vSp s] h (fun h' y => ∃ q : SlH, y = slv q ∧ RdE h' (slv q) eSp 3 (mv g s)) := by
  obtain ⟨a, k, w⟩ := s
  obtain ⟨h1, h2, h3, h4, h5⟩ := hs
  dsimp only at *
  obtain ⟨n, rfl⟩ : ∃ n : Nat, a = n := ⟨a.toNat, by omega⟩
  exact movesR_okN g x n k w h hx hg (by omega) ⟨h3, h4⟩ h5
end Go.Proofs.Ytnepdmnkhjpnhaa
end

section
set_option linter.unusedVariables false
set_option linter.unusedSimpArgs false
set_option linter.unusedSectionVars false
set_option maxHeartbeats 4000000
namespace Go.Proofs.Ytnepdmnkhjpnhaa
open Go Go.Sk Go.Lp Go.RowKit
variable {M : Go.Sk.Mode}
def okI (n : Int) (i : Int) : Bool := decide (0 ≤ i ∧ i < n)
def okL (n : Int) (l : List Int) : Bool := decide (l.length ≤ 32) && l.all (okI n)
def gvB (g : Gr) : Bool := decide (1 ≤ g.L.length ∧ g.L.length ≤ 32 ∧ g.R.length = g.L.length) && g.L.all (okL g.L.length) && g.R.all (okL g.L.length)
theorem gvB_iff {g : Gr} : gvB g = true ↔ GV g := by
  unfold gvB okL okI
  simp only [Bool.and_eq_true, decide_eq_true_eq, List.all_eq_true]
  exact ⟨fun ⟨⟨⟨h1, h2, h3⟩, h4⟩, h5⟩ => ⟨h1, h2, h3, h4, h5⟩, fun h => ⟨⟨⟨h.l0, h.l1, h.lr⟩, h.ol⟩, h.or⟩⟩
theorem any_not {α : Type} (p : α → Bool) (l : List α) : (!(l.any fun a => !p a)) = l.all p := by
  rw [List.all_eq_not_any_not]
theorem wrongI_in {w0 : World} {h0 h : Hp} {L : List Itm} {K : Value → WP} {nb : Nat} (n i : Int) [hb : Blk L nb [I n] 3] (hk : Gs w0 h0 h L (K (.bool (!okI n i)))) : Gs w0 h0 h L (Do Try.prog (vCall (.func (.func 51) #[] ⟨[ptr nb 0]⟩) [I i]) K) := by
  refine in51 ?_
  unfold s51
  (repeat (refine G.step ?_))
  refine G.gddf ?_ ?_ <;> intro c1
  · rw [show okI n i = false by unfold okI; simp; omega] at hk
    exact hk
  · (repeat (refine G.step ?_))
    have e : (!okI n i) = decide (n ≤ i) := by unfold okI; rw [← decide_not, decide_eq_decide]; omega
    rw [e] at hk
    exact hk
theorem wrong_in {w0 : World} {h0 h : Hp} {L : List Itm} {K : Value → WP} {nb : Nat} (n : Int) (q : SlH) (l : List Int) (hq : rI h q l) (hl : l.length ≤ 4611686018427387904) [hb : Blk L nb [I n] 3] (hk : Gs w0 h0 h L (K (.bool (!okL n l)))) : Gs w0 h0 h L (Do Try.prog (vCall (.func (.func 49) #[] ⟨[ptr nb 0]⟩) [slv q]) K) := by
  refine in49 ?_
  unfold s49
  refine Gs.lenE hq (by omega) ?_
  (repeat (refine G.step ?_))
  refine G.gddf ?_ ?_ <;> intro c1
  · rw [show okL n l = false by unfold okL; simp; omega] at hk
    exact hk
  · refine in50 ?_
    unfold s50
    refine in68 ?_
    unfold s68
    refine sIdx_ok (t := 49) (e := 3) (val := fun n => I n) (fun i => !okI n i) hq hl (fun K x _ hk => wrongI_in n x hk) ?_
    (repeat (refine G.step ?_))
    rw [idxOf_any]
    have e : (!okL n l) = l.any fun i => !okI n i := by
      unfold okL
      rw [decide_eq_true (by omega), Bool.true_and, ← any_not, Bool.not_not]
    rw [e] at hk
    exact hk
theorem wrongs_in {w0 : World} {h0 h : Hp} {L : List Itm} {K : Value → WP} {nb : Nat} (n : Int) (q : SlH) (l : List (List Int)) (hq : RdF h (slv q) eSlH 1 rI l) (hl : l.length ≤ 4611686018427387904) (hl2 : ∀ m ∈ l, m.length ≤ 4611686018427387904) [hb : Blk L nb [I n] 3] (hk : Gs w0 h0 h L (K (.bool (!l.all (okL n))))) : Gs w0 h0 h L (Do Try.prog (vCall (.func (.func 52) #[] ⟨[]⟩) [slv q, .func (.func 49) #[] ⟨[ptr nb 0]⟩]) K) := by
  refine in52 ?_
  unfold s52
  refine in69 ?_
  unfold s69
  refine sIdxF_ok (t := 25) (e := 49) (val := fun n => slv n) (fun i => !okL n i) hq hl (fun K x a hxa ha hk => wrong_in n x a hxa (hl2 a ha) hk) ?_
  (repeat (refine G.step ?_))
  rw [idxOf_any]
  have e : (!l.all (okL n)) = l.any fun i => !okL n i := by rw [← any_not, Bool.not_not]
  rw [e] at hk
  exact hk
theorem valid_ok (g : Gr) (x : GrH) (h : Hp) (hx : GrR h x g) (hs : GS g) : Ct Try.prog 23 [vG x] h (fun _ v => v = .bool (gvB g)) := by
  refine ct23 ?_
  intro w0
  unfold s23
  have h1 := hs.l
  have h2 := hs.r
  (repeat (first | refine G.step ?_ | (refine Gs.box ?_; intro _)))
  refine Gs.lenF hx.l (by omega) ?_
  (repeat (first | refine G.step ?_ | (refine Gs.alloc ?_; intro _) | refine Gs.store ?_))
  rename_i xb nb
  refine G.gddt ?_ ?_ <;> intro c1
  · (repeat (refine G.step ?_))
    refine G.gddt ?_ ?_ <;> intro c2
    · (repeat (refine G.step ?_))
      refine Gs.lenF hx.r (by omega) ?_
      (repeat (refine G.step ?_))
      refine G.gddt ?_ ?_ <;> intro c3
      · (repeat (refine G.step ?_))
        refine wrongs_in (g.L.length : Int) x.1 g.L hx.l hs.l hs.ol ?_
        (repeat (refine G.step ?_))
        rw [Bool.not_not]
        refine G.gdbt ?_ ?_ <;> intro c4
        · (repeat (refine G.step ?_))
          refine wrongs_in (g.L.length : Int) x.2 g.R hx.r hs.r hs.or ?_
          (repeat (refine G.step ?_))
          rw [Bool.not_not]
          exact Gs.ret (by unfold gvB; rw [c4, decide_eq_true (by omega)]; simp)
        · exact Gs.ret (by unfold gvB; rw [c4]; simp)
      · exact Gs.ret (by unfold gvB; rw [decide_eq_false (by omega)]; simp)
    · exact Gs.ret (by unfold gvB; rw [decide_eq_false (by omega)]; simp)
  · exact Gs.ret (by unfold gvB; rw [decide_eq_false (by omega)]; simp)

/-! ### The reference's -/
theorem all_take {α : Type} (p : α → Bool) (l : List α) (i : Nat) (hi : i < l.length) : (l.take (i + 1)).all p = ((l.take i).all p && p l[i]) := by
  rw [List.take_succ_eq_append_getElem hi, List.all_append, List.all_cons, List.all_nil, Bool.and_true]
theorem lists_ok (l : List (List Int)) (q : SlH) (n : Int) (h : Hp) (hq : RdF h (slv q) eSlH 1 rI l) (hl : l.length ≤ 4611686018427387904) (hl2 : ∀ m ∈ l, m.length ≤ 4611686018427387904) : Ct Try.prog 48 [slv q, I n] h (fun _ v => v = .bool (l.all (okL n) && decide ((l.length : Int) = n))) := by
  refine ct48 ?_
  intro w0
  unfold s48
  refine Gs.lp (β := Nat) (fun u => I u) (fun _ => h) (fun u => []) (fun u => u ≤ l.length ∧ (l.take u).all (okL n) = true) (fun u => l.length - u) 0 rfl ⟨Nat.zero_le _, by simp⟩ (fun _ s => s) ?_
  rintro i ⟨hi, ha⟩ cont hc
  refine G.jk ?_; intro _
  refine Gs.lenF hq (by omega) ?_
  (repeat (refine G.step ?_))
  refine G.ifd ?_ ?_ <;> intro hlt
  · have hlt' : i < l.length := by omega
    have hm := hl2 _ (List.getElem_mem hlt')
    have hfalse : okL n l[i] = false → l.all (okL n) = false := fun hf => by
      rw [List.all_eq_false]
      exact ⟨l[i], List.getElem_mem hlt', by rw [hf]; decide⟩
    refine Gs.indexF hq hlt' ?_
    intro b1 o1 x1 hp1 hx1
    refine Gs.loadE hp1 ?_
    refine Gs.lenE hx1 (by omega) ?_
    (repeat (refine G.step ?_))
    refine G.ifd ?_ ?_ <;> intro hbig
    · exact Gs.ret (by rw [hfalse (by unfold okL; simp; omega)]; rfl)
    · refine Gs.lp (β := Nat) (fun u => I u) (fun _ => h) (fun u => []) (fun u => u ≤ l[i].length ∧ (l[i].take u).all (okI n) = true) (fun u => l[i].length - u) 0 rfl ⟨Nat.zero_le _, by simp⟩ (fun _ s => s) ?_
      rintro k ⟨hk, hak⟩ cont2 hc2
      refine G.jk ?_; intro _
      refine Gs.indexF hq hlt' ?_
      intro b1 o1 x1 hp1 hx1
      refine Gs.loadE hp1 ?_
      refine Gs.lenE hx1 (by omega) ?_
      (repeat (refine G.step ?_))
      refine G.ifd ?_ ?_ <;> intro hltk
      · have hltk' : k < l[i].length := by omega
        refine G.jnP (fun j => j = .bool (!okI n l[i][k])) ?_ ?_
        · rintro _ rfl
          refine G.jk ?_; intro _
          refine G.ifb ?_ ?_ <;> intro hb
          · refine Gs.ret ?_
            rw [hfalse]
            · rfl
            · unfold okL
              rw [Bool.and_eq_false_iff]
              refine .inr ?_
              rw [List.all_eq_false]
              exact ⟨l[i][k], List.getElem_mem hltk', by simpa using hb⟩
          · (repeat (refine G.add (by omega) ?_))
            refine Gs.go (t' := I ((k + 1 : Nat) : Int)) (hc2 (k + 1) ⟨by omega, ?_⟩ (by omega)) (by simp)
            rw [all_take _ _ _ hltk', hak]
            simpa using hb
        · intro K hK
          refine Gs.indexF hq hlt' ?_
          intro b2 o2 x2 hp2 hx2
          refine Gs.loadE hp2 ?_
          refine Gs.indexE hx2 hltk' ?_
          intro b3 o3 hp3
          refine Gs.loadE hp3 ?_
          (repeat (refine G.step ?_))
          refine G.gddf ?_ ?_ <;> intro c1
          · exact hK _ (by congr 1; symm; unfold okI; simp; omega)
          · refine Gs.indexF hq hlt' ?_
            intro b2 o2 x2 hp2 hx2
            refine Gs.loadE hp2 ?_
            refine Gs.indexE hx2 hltk' ?_
            intro b3 o3 hp3
            refine Gs.loadE hp3 ?_
            (repeat (refine G.step ?_))
            exact hK _ (by congr 1; unfold okI; rw [← decide_not, decide_eq_decide]; omega)
      · (repeat (refine G.add (by omega) ?_))
        have hk' : k = l[i].length := by omega
        rw [hk', List.take_length] at hak
        refine Gs.go (t' := I ((i + 1 : Nat) : Int)) (hc (i + 1) ⟨by omega, ?_⟩ (by omega)) (by simp)
        rw [all_take _ _ _ hlt', ha]
        unfold okL
        rw [hak, decide_eq_true (by omega)]
        rfl
  · have hi' : i = l.length := by omega
    rw [hi', List.take_length] at ha
    refine Gs.lenF hq (by omega) ?_
    (repeat (refine G.step ?_))
    exact Gs.ret (by rw [ha, Bool.true_and])
theorem validR_ok (g : Gr) (x : GrH) (h : Hp) (hx : GrR h x g) (hs : GS g) : Ct Try.prog 22 [vG x] h (fun _ v => v = .bool (gvB g)) := by
  refine ct22 ?_
  intro w0
  unfold s22
  have h1 := hs.l
  have h2 := hs.r
  (repeat (first | refine G.step ?_ | (refine Gs.box ?_; intro _)))
  refine Gs.lenF hx.l (by omega) ?_
  (repeat (refine G.step ?_))
  refine G.gddt ?_ ?_ <;> intro c1
  · (repeat (refine G.step ?_))
    refine G.gddt ?_ ?_ <;> intro c2
    · (repeat (refine G.step ?_))
      refine Gs.callv0 (lists_ok g.L x.1 g.L.length h hx.l hs.l hs.ol) ?_
      rw [decide_eq_true rfl, Bool.and_true]
      refine G.gdbt ?_ ?_ <;> intro c4
      · (repeat (refine G.step ?_))
        refine Gs.callv0 (lists_ok g.R x.2 g.L.length h hx.r hs.r hs.or) ?_
        refine Gs.ret ?_
        unfold gvB
        rw [c4]
        by_cases e : g.R.length = g.L.length
        · rw [decide_eq_true (by omega), decide_eq_true (by omega)]; simp
        · rw [decide_eq_false (by omega), decide_eq_false (by omega)]; simp
      · exact Gs.ret (by unfold gvB; rw [c4]; simp)
    · exact Gs.ret (by unfold gvB; rw [decide_eq_false (by omega)]; simp)
  · exact Gs.ret (by unfold gvB; rw [decide_eq_false (by omega)]; simp)
end Go.Proofs.Ytnepdmnkhjpnhaa
end

section
set_option linter.unusedVariables false
set_option linter.unusedSimpArgs false
set_option linter.unusedSectionVars false
set_option maxHeartbeats 8000000
namespace Go.Proofs.Ytnepdmnkhjpnhaa
open Go Go.Sk Go.Lp Go.RowKit
variable {M : Go.Sk.Mode}
/-- Laid in 'out' and put behind 'work', if it is not decided yet. -/
theorem decide_in {w0 : World} {h0 h : Hp} {R : List Itm} {K : Value → WP} {ob wb orr : Nat} {lo : List (Sp × Int)} {wq : SlH} {work : List Sp} (s : Sp) (r : Int) (hlen : work.length ≤ 4096)
    (hK0 : ln lo s ≠ 0 → Gs w0 h0 h (.blk ob [.map (some orr)] 102 :: .blk wb [slv wq] 23 :: .ob orr (mO kSp vI lo) :: .sl (slv wq) 30 3 (fl eSp work) :: R) (K (.tuple #[])))
    (hK1 : ln lo s = 0 → ∀ wq' : SlH, Gs w0 h0 h (.blk ob [.map (some orr)] 102 :: .blk wb [slv wq'] 23 :: .ob orr (mO kSp vI (mset lo s r)) :: .sl (slv wq') 30 3 (fl eSp (work ++ [s])) :: R) (K (.tuple #[]))) :
    Gs w0 h0 h (.blk ob [.map (some orr)] 102 :: .blk wb [slv wq] 23 :: .ob orr (mO kSp vI lo) :: .sl (slv wq) 30 3 (fl eSp work) :: R) (Do Try.prog (vCall (.func (.func 79) #[] ⟨[ptr ob 0, ptr wb 0]⟩) [vSp s, I r]) K) := by
  refine in79 ?_
  unfold s79
  (repeat (first | refine G.step ?_ | (refine Gs.box ?_; intro _)))
  refine Gs.lookup (ek := kSp) (ev := vI) s rfl ?_
  rw [lkI]
  (repeat (refine G.step ?_))
  refine G.ifd ?_ ?_ <;> intro hz
  · (repeat (refine G.step ?_))
    refine Gs.mapUpdate (ek := kSp) (ev := vI) s r rfl rfl ?_
    (repeat (refine G.step ?_))
    refine Gs.push (enc := eSp) (a := s) (by decide) (by decide) (by omega) (by omega) ?_
    intro s' v'
    refine Gs.slH (v := v') ?_
    rintro q' rfl
    (repeat (refine Gs.store ?_))
    exact Gs.sel (hK1 hz q')
  · exact Gs.sel (hK0 hz)
structure GhF where
  hh : Hp
  lb : List (Sp × (SlH × List Sp))
  ll : List (Sp × Int)
  lo : List (Sp × Int)
  wq : SlH
  work : List Sp
  ds : List Sp
abbrev itsS := its (κ := Sp) 30 3 eSp
structure PF (g : Gr) (n : Nat) (h : Hp) (u : GhF) (c : Sp) : Prop where
  le : Hle h u.hh
  ini : Ini g (bfn u.lb) (ln u.ll) (ln u.lo) u.work u.ds
  ds : ∀ t, t ∈ u.ds ↔ SN g n t ∧ lt t c
theorem PF.bd {g : Gr} {n : Nat} {h : Hp} {u : GhF} {c : Sp} (hp : PF g n h u c) (hg : GV g) (hn : n ≤ 16) : u.ds.length ≤ 2112 := SN_bound hg hn hp.ini.nodup fun s hs => ((hp.ds s).1 hs).1
theorem Ini.wlen {g : Gr} {bf : Sp → List Sp} {lf out : Sp → Int} {work ds : List Sp} (h : Ini g bf lf out work ds) : work.length ≤ ds.length := by
  rw [h.wk]; exact List.length_filter_le _ _
/-- What is known of all spots with at most n free moves. -/
def Kn (h : Hp) (r : Nat) (g : Gr) (n : Nat) : Prop := ∃ l : List (Sp × Int), h r = some (mO kSp vI l) ∧ ∀ s, SN g n s → ln l s = res g s
theorem bfn_upd (lb : List (Sp × (SlH × List Sp))) (m : Sp) (p : SlH × List Sp) : bfn (mset lb m p) = updL (bfn lb) m p.2 := by
  funext t; rw [bfn_set]; rfl
theorem ln_upd (l : List (Sp × Int)) (m : Sp) (v : Int) : ln (mset l m v) = upd (ln l) m v := by
  funext t; rw [ln_set]; rfl
theorem lt_next {g : Gr} {n : Nat} {t : Sp} {i k w : Int} : SN g n t ∧ (lt t (i, k, w) ∨ t = (i, k, w)) ↔ SN g n t ∧ lt t (i, k, w + 1) := by
  obtain ⟨a, b, c⟩ := t
  unfold lt SN
  simp only [Prod.mk.injEq]
  omega
theorem lt_row {g : Gr} {n : Nat} {t : Sp} {i k : Int} : SN g n t ∧ lt t (i, k, 2) ↔ SN g n t ∧ lt t (i, k + 1, 0) := by
  unfold lt SN; dsimp only; omega
theorem lt_node {g : Gr} {n : Nat} {t : Sp} {i : Int} : SN g n t ∧ lt t (i, n + 1, 0) ↔ SN g n t ∧ lt t (i + 1, -n, 0) := by
  unfold lt SN; dsimp only; omega
theorem lt_end {g : Gr} {n : Nat} {t : Sp} : SN g n t ∧ lt t (g.L.length, -n, 0) ↔ SN g n t := by
  unfold lt SN; dsimp only; omega
theorem lt_start {g : Gr} {n : Nat} {t : Sp} : ¬ (SN g n t ∧ lt t (0, -n, 0)) := by
  unfold lt SN; dsimp only; omega
end Go.Proofs.Ytnepdmnkhjpnhaa
end

section
set_option linter.unusedVariables false
set_option linter.unusedSimpArgs false
set_option linter.unusedSectionVars false
set_option maxHeartbeats 8000000
namespace Go.Proofs.Ytnepdmnkhjpnhaa
open Go Go.Sk Go.Lp Go.RowKit
variable {M : Go.Sk.Mode}
abbrev LF (xb ob wb orr lr br : Nat) (x : GrH) (u : GhF) : List Itm := .blk ob [.map (some orr)] 102 :: .blk wb [slv u.wq] 23 :: .ob orr (mO kSp vI u.lo) :: .sl (slv u.wq) 30 3 (fl eSp u.work) :: .ob lr (mO kSp vI u.ll) :: .ob br (mO kSp vB u.lb) :: .blk xb [slv x.1, slv x.2] 27 :: itsS u.lb
abbrev LGs (sb ob wb orr lr : Nat) (s : Sp) (y : GhF) : List Itm := [.blk sb [I s.1, I s.2.1, I s.2.2] 30, .blk ob [.map (some orr)] 102, .blk wb [slv y.wq] 23, .ob orr (mO kSp vI y.lo), .sl (slv y.wq) 30 3 (fl eSp y.work), .ob lr (mO kSp vI y.ll)]
theorem results_ok (g : Gr) (x : GrH) (n : Nat) (h : Hp) (hn : n ≤ 16) (hx : GrR h x g) (hg : GV g) : Ct Try.prog 60 [vG x, I n] h (fun h' y => ∃ r, y = .map (some r) ∧ Kn h' r g n) := by
  refine ct60 ?_
  intro w0
  unfold s60
  have hl1 := hg.l1
  (repeat (refine Gs.box ?_; intro _))
  rename_i xb
  refine Gs.makeMap0 ?_
  intro br
  refine Gs.makeMap0 ?_
  intro lr
  refine Gs.makeMap0 ?_
  intro orr
  (repeat (first | refine G.step ?_ | (refine Gs.alloc ?_; intro _) | refine Gs.store ?_))
  rename_i ob wb
  refine Gs.lenF hx.l (by omega) ?_
  refine Gs.nilsl 30 3 ?_
  refine Gs.sel (L' := [.blk ob [.map (some orr)] 102, .blk wb [.slice none 0 0] 23, .ob orr (.map #[] 0), .sl (.slice none 0 0) 30 3 [], .ob lr (.map #[] 0), .ob br (.map #[] 0), .blk xb [slv x.1, slv x.2] 27]) ?_
  refine Gs.lp (β := Nat × GhF) (fun u => I u.1) (fun u => u.2.hh) (fun u => LF xb ob wb orr lr br x u.2) (fun u => u.1 ≤ g.L.length ∧ PF g n h u.2 ((u.1 : Int), -(n : Int), 0)) (fun u => g.L.length - u.1) (0, ⟨h, [], [], [], (none, 0, 0), [], []⟩) rfl ⟨Nat.zero_le _, Hle.refl h, Ini.start, fun t => ⟨fun hm => ((by cases hm)), fun hm => absurd hm lt_start⟩⟩ (fun _ s => s) ?_
  rintro ⟨i, u⟩ ⟨hi, hp⟩ cont hc
  dsimp only at hi hp hc ⊢
  (repeat (first | refine G.step ?_ | (refine G.jk ?_; intro _)))
  refine G.ifd ?_ ?_ <;> intro hlt
  · (repeat (refine G.neg (by omega) ?_))
    refine Gs.lp (β := Int × GhF) (fun u => I u.1) (fun u => u.2.hh) (fun u => LF xb ob wb orr lr br x u.2) (fun u => -(n : Int) ≤ u.1 ∧ u.1 ≤ n + 1 ∧ PF g n h u.2 ((i : Int), u.1, 0)) (fun u => (n + 1 - u.1).toNat) (-(n : Int), u) rfl ⟨by dsimp only; omega, by dsimp only; omega, hp⟩ (fun _ s => s) ?_
    clear hp
    rintro ⟨k, u⟩ ⟨hk1, hk2, hp⟩ cont2 hc2
    dsimp only at hk1 hk2 hp hc2 ⊢
    (repeat (first | refine G.step ?_ | (refine G.jk ?_; intro _)))
    refine G.ifd ?_ ?_ <;> intro hltk
    · refine Gs.lp (β := Int × GhF) (fun u => I u.1) (fun u => u.2.hh) (fun u => LF xb ob wb orr lr br x u.2) (fun u => 0 ≤ u.1 ∧ u.1 ≤ 2 ∧ PF g n h u.2 ((i : Int), k, u.1)) (fun u => (2 - u.1).toNat) (0, u) rfl ⟨by dsimp only; omega, by dsimp only; omega, hp⟩ (fun _ s => s) ?_
      clear hp
      rintro ⟨w, u⟩ ⟨hw1, hw2, hp⟩ cont3 hc3
      dsimp only at hw1 hw2 hp hc3 ⊢
      (repeat (first | refine G.step ?_ | (refine G.jk ?_; intro _)))
      refine G.ifd ?_ ?_ <;> intro hltw
      · have hs : SN g n ((i : Int), k, w) := by unfold SN; dsimp only; omega
        have hnew : ((i : Int), k, w) ∉ u.ds := fun hm => lt_irrefl _ ((hp.ds _).1 hm).2
        refine G.jnk (fun (_ : Unit) S' => ∃ u' : GhF, PF g n h u' ((i : Int), k, w + 1) ∧ S' = St w0 h u'.hh (LF xb ob wb orr lr br x u')) ?_ ?_
        · rintro _ _ ⟨u', hp', rfl⟩
          refine G.jk ?_; intro _
          (repeat (refine G.add (by omega) ?_))
          exact Gs.go (hc3 (w + 1, u') ⟨by dsimp only; omega, by dsimp only; omega, hp'⟩ (by dsimp only; omega)) rfl
        · intro k18 hk18
          (repeat (first | refine G.step ?_ | (refine Gs.alloc ?_; intro _) | refine Gs.store ?_))
          rename_i sb
          refine Gs.call0 (moves_ok g x ((i : Int), k, w) u.hh (hx.mono hp.le) hg (hs.mono hn)) ?_
          rintro _ h1 le1 ⟨q, rfl, hq⟩
          have hml := mv_len hg (s := ((i : Int), k, w)) ⟨hs.1, hs.2.1⟩
          have hdl := hp.bd hg hn
          generalize hms : mv g ((i : Int), k, w) = ms at *
          (repeat (refine G.step ?_))
          refine Gs.lenE hq (by omega) ?_
          refine Gs.mapUpdate (ek := kSp) (ev := vI) ((i : Int), k, w) (ms.length : Int) rfl rfl ?_
          refine Gs.lenE hq (by omega) ?_
          refine Gs.sel (L' := .blk sb [I i, I k, I w] 30 :: LF xb ob wb orr lr br x { u with hh := h1, ll := mset u.ll ((i : Int), k, w) (ms.length : Int) }) ?_
          have hin0 : IniIn g (bfn u.lb) (ln (mset u.ll ((i : Int), k, w) (ms.length : Int))) (ln u.lo) u.work u.ds ((i : Int), k, w) [] := by
            have := hp.ini.into hnew
            rw [ln_upd, ← hms]
            exact this
          refine Gs.lp (β := Nat × GhF) (fun v => I v.1) (fun v => v.2.hh) (fun v => .blk sb [I i, I k, I w] 30 :: LF xb ob wb orr lr br x v.2) (fun v => v.1 ≤ ms.length ∧ Hle h1 v.2.hh ∧ IniIn g (bfn v.2.lb) (ln v.2.ll) (ln v.2.lo) v.2.work v.2.ds ((i : Int), k, w) (ms.take v.1) ∧ v.2.ds = u.ds) (fun v => ms.length - v.1) (0, { u with hh := h1, ll := mset u.ll ((i : Int), k, w) (ms.length : Int) }) rfl ⟨Nat.zero_le _, Hle.refl h1, by rw [List.take_zero]; exact hin0, rfl⟩ (fun _ s => s) ?_
          rintro ⟨j, v⟩ ⟨hj, hle2, hin, hds⟩ cont4 hc4
          dsimp only at hj hle2 hin hds hc4 ⊢
          (repeat (first | refine G.step ?_ | (refine G.jk ?_; intro _)))
          refine G.ifd ?_ ?_ <;> intro hltj
          · have hj' : j < ms.length := by omega
            refine Gs.indexE (hq.mono hle2) hj' ?_
            intro b2 o2 hp2
            refine Gs.loadE hp2 ?_
            generalize hm : ms[j] = m at *
            (repeat (first | refine G.step ?_ | (refine Gs.alloc ?_; intro _) | refine Gs.store ?_))
            rename_i mb
            refine Gs.buildSlice (out := [I i, I k, I w]) (by decide) ?_
            intro eb
            refine Gs.mapEntry (ek := kSp) (ev := vB) m z0B rfl rfl ?_
            intro idx hidx
            (repeat (refine G.step ?_))
            refine Gs.itsOut [_, _, _, _, _, _, _, _, _, _] v.lb m ?_
            intro Rest hRest
            dsimp only [List.cons_append, List.nil_append]
            have hbe := bfn_eq v.lb m
            have hlen := hin.len m
            rw [hds] at hlen
            have htl : (ms.take j).length ≤ 33 := by simp; omega
            generalize (mget v.lb m).getD z0B = e at *
            rw [hbe] at hlen
            refine Gs.appendO (enc := eSp) (l := e.2) (m := [((i : Int), k, w)]) (e2 := 30) (by simp [fl]) (by simp; omega) (by simp; omega) ?_
            intro v'
            refine Gs.slH (v := v') ?_
            rintro q' rfl
            (repeat (refine G.step ?_))
            refine Gs.entryStore (ek := kSp) (ev := vB) (q', e.2 ++ [((i : Int), k, w)]) hidx rfl ?_
            rw [mset_mset]
            refine Gs.sel (L' := .blk sb [I i, I k, I w] 30 :: .blk ob [.map (some orr)] 102 :: .blk wb [slv v.wq] 23 :: .ob orr (mO kSp vI v.lo) :: .sl (slv v.wq) 30 3 (fl eSp v.work) :: .ob lr (mO kSp vI v.ll) :: .ob br (mO kSp vB (mset v.lb m (q', e.2 ++ [((i : Int), k, w)]))) :: .blk xb [slv x.1, slv x.2] 27 :: .sl (slv q') 30 3 (fl eSp (e.2 ++ [((i : Int), k, w)])) :: Rest) ?_
            refine Gs.itsIn (k := m) [_, _, _, _, _, _, _, _] hRest (q', e.2 ++ [((i : Int), k, w)]) ?_
            dsimp only [List.cons_append, List.nil_append]
            (repeat (refine G.add (by omega) ?_))
            refine Gs.go (t' := I ((j + 1 : Nat) : Int)) (hc4 (j + 1, { v with lb := mset v.lb m (q', e.2 ++ [((i : Int), k, w)]) }) ⟨by dsimp only; omega, hle2, ?_, hds⟩ (by dsimp only; omega)) (by simp)
            dsimp only
            rw [List.take_succ_eq_append_getElem hj', hm, bfn_upd, ← hbe]
            exact hin.step m
          · have hj' : j = ms.length := by omega
            subst hj'
            rw [List.take_length] at hin
            refine Gs.lenE (hq.mono hle2) (by omega) ?_
            (repeat (refine G.step ?_))
            refine G.ifd ?_ ?_ <;> intro hz
            · have hmv : mv g ((i : Int), k, w) = [] := by rw [hms]; exact List.eq_nil_of_length_eq_zero (by omega)
              obtain ⟨ho0, hini⟩ := hin.outE hms.symm (by omega) hmv
              have hwl : v.work.length ≤ v.ds.length := by rw [hin.wk]; exact List.length_filter_le _ _
              rw [hds] at hwl
              (repeat (refine G.step ?_))
              refine Gs.sel (L' := LF xb ob wb orr lr br x v) ?_
              refine decide_in ((i : Int), k, w) 3 (by omega) (fun h0 => absurd ho0 h0) ?_
              intro _ wq'
              refine hk18 () _ ⟨{ v with lo := mset v.lo ((i : Int), k, w) 3, wq := wq', work := v.work ++ [((i : Int), k, w)], ds := v.ds ++ [((i : Int), k, w)] }, ⟨hp.le.trans (le1.trans hle2), ?_, fun t => ?_⟩, rfl⟩
              · dsimp only
                rw [ln_upd]
                exact hini
              · dsimp only
                rw [hds, List.mem_append, List.mem_singleton, hp.ds, ← lt_next]
                exact ⟨fun h => h.elim (fun h => ⟨h.1, .inl h.2⟩) fun h => ⟨h ▸ hs, .inr h⟩, fun h => h.2.elim (fun h' => .inl ⟨h.1, h'⟩) .inr⟩
            · have hmv : mv g ((i : Int), k, w) ≠ [] := fun e => by rw [hms] at e; rw [e] at hz; simp at hz
              have hini := hin.outN hms.symm (by omega) hmv
              refine Gs.sel (L' := LF xb ob wb orr lr br x { v with ds := v.ds ++ [((i : Int), k, w)] }) ?_
              refine hk18 () _ ⟨{ v with ds := v.ds ++ [((i : Int), k, w)] }, ⟨hp.le.trans (le1.trans hle2), hini, fun t => ?_⟩, rfl⟩
              dsimp only
              rw [hds, List.mem_append, List.mem_singleton, hp.ds, ← lt_next]
              exact ⟨fun h => h.elim (fun h => ⟨h.1, .inl h.2⟩) fun h => ⟨h ▸ hs, .inr h⟩, fun h => h.2.elim (fun h' => .inl ⟨h.1, h'⟩) .inr⟩
      · have hw2' : w = 2 := by omega
        subst hw2'
        (repeat (refine G.add (by omega) ?_))
        exact Gs.go (hc2 (k + 1, u) ⟨by dsimp only; omega, by dsimp only; omega, ⟨hp.le, hp.ini, fun t => (hp.ds t).trans lt_row⟩⟩ (by dsimp only; omega)) rfl
    · have hk' : k = n + 1 := by omega
      subst hk'
      (repeat (refine G.add (by omega) ?_))
      exact Gs.go (t' := I ((i + 1 : Nat) : Int)) (hc (i + 1, u) ⟨by dsimp only; omega, ⟨hp.le, hp.ini, fun t => by rw [hp.ds t, lt_node]; rfl⟩⟩ (by dsimp only; omega)) (by simp)
  · have hi' : i = g.L.length := by omega
    subst hi'
    clear hc cont hi hlt
    refine Gs.itsFreeze (by decide) [_, _, _, _, _, _, _] u.lb ?_
    intro h2 le2 hall
    refine Gs.freezeOb br ?_
    intro h3 le3 hbr
    have hall3 : ∀ p ∈ u.lb, RdE h3 (slv p.2.1) eSp 3 p.2.2 := fun p hp => (hall p hp).mono le3
    have hInv : Inv g (SN g n) (ln u.ll) (ln u.lo) u.work [] := hp.ini.inv fun t => (hp.ds t).trans lt_end
    have hcnt : ∀ s b, SN g n b → (bfn u.lb s).count b = (mv g b).count s := fun s b hb => hp.ini.cnt ((hp.ds b).2 (lt_end.2 hb))
    have hmem : ∀ s b, b ∈ bfn u.lb s → SN g n b := fun s b hb => ((hp.ds b).1 (hp.ini.mem hb)).1
    have hbl : ∀ s, (bfn u.lb s).length ≤ 84480 := fun s => by have := hp.ini.len s; have := hp.bd hg hn; omega
    refine Gs.sel (L' := [.blk ob [.map (some orr)] 102, .blk wb [slv u.wq] 23, .ob orr (mO kSp vI u.lo), .sl (slv u.wq) 30 3 (fl eSp u.work), .ob lr (mO kSp vI u.ll)]) ?_
    refine Gs.lp (β := GhF) (fun _ => ()) (fun _ => h3) (fun v => [.blk ob [.map (some orr)] 102, .blk wb [slv v.wq] 23, .ob orr (mO kSp vI v.lo), .sl (slv v.wq) 30 3 (fl eSp v.work), .ob lr (mO kSp vI v.ll)]) (fun v => Inv g (SN g n) (ln v.ll) (ln v.lo) v.work v.ds) (fun v => 2112 - v.ds.length) { u with ds := [] } rfl hInv (fun _ s => s) ?_
    intro v hv cont hc
    have hwb : (v.ds ++ v.work).length ≤ 2112 := SN_bound hg hn hv.nodup fun s hs => (hv.sound s ((hv.dec s).2 hs)).1
    rw [List.length_append] at hwb
    (repeat (first | refine G.step ?_ | (refine G.jk ?_; intro _)))
    refine Gs.olen (by omega) ?_
    (repeat (refine G.step ?_))
    refine G.ifd ?_ ?_ <;> intro hne
    · rcases hwk : v.work with _ | ⟨s, wk⟩
      · rw [hwk] at hne; simp at hne
      · rw [hwk] at hv hwb
        have hs : SN g n s := (hv.sound s ((hv.dec s).2 (by simp))).1
        (repeat (refine G.step ?_))
        refine Gs.oindex (enc := eSp) (i := 0) (by simp) ?_
        intro b1 o1 hp1
        refine Gs.oloadE hp1 ?_
        rw [List.getElem_cons_zero]
        (repeat (first | refine G.step ?_ | (refine Gs.alloc ?_; intro _) | refine Gs.store ?_))
        rename_i sb
        refine Gs.cutO (enc := eSp) (lo := some 1) (hi := none) (by simp [cutLo, cutHi]) (by simp [cutHi]) (by intro i e; cases e; decide) (by intro i e; cases e) ?_
        intro v'
        refine Gs.slH (v := v') ?_
        rintro q' rfl
        have hdrop : ((s :: wk).take (cutHi none (s :: wk).length)).drop (cutLo (some 1)) = wk := by simp [cutHi, cutLo]
        rw [hdrop]
        (repeat (first | refine G.step ?_ | refine Gs.store ?_))
        refine Gs.lookupF (ek := kSp) (ev := vB) s hbr rfl ?_
        obtain ⟨q, hq1, hq⟩ := lkB hall3 s
        rw [hq1]
        have hbs := hbl s
        have hcnt := hcnt s
        have hmem := hmem s
        generalize bfn u.lb s = bs at *
        refine Gs.lenE hq (by omega) ?_
        refine Gs.sel (L' := [.blk sb [I s.1, I s.2.1, I s.2.2] 30, .blk ob [.map (some orr)] 102, .blk wb [slv q'] 23, .ob orr (mO kSp vI v.lo), .sl (slv q') 30 3 (fl eSp wk), .ob lr (mO kSp vI v.ll)]) ?_
        refine Gs.lp (β := Nat × GhF) (fun y => I y.1) (fun _ => h3) (fun y => [.blk sb [I s.1, I s.2.1, I s.2.2] 30, .blk ob [.map (some orr)] 102, .blk wb [slv y.2.wq] 23, .ob orr (mO kSp vI y.2.lo), .sl (slv y.2.wq) 30 3 (fl eSp y.2.work), .ob lr (mO kSp vI y.2.ll)]) (fun y => y.1 ≤ bs.length ∧ InvIn g (SN g n) (ln y.2.ll) (ln y.2.lo) y.2.work v.ds s (bs.take y.1)) (fun y => bs.length - y.1) (0, { v with wq := q', work := wk }) rfl ⟨Nat.zero_le _, by rw [List.take_zero]; exact hv.into⟩ (fun _ s => s) ?_
        rintro ⟨j, y⟩ ⟨hj, hin⟩ cont2 hc2
        dsimp only at hj hin hc2 ⊢
        have hwb2 : (v.ds ++ s :: y.work).length ≤ 2112 := SN_bound hg hn hin.nodup fun s hs => (hin.sound s ((hin.dec s).2 hs)).1
        rw [List.length_append, List.length_cons] at hwb2
        (repeat (first | refine G.step ?_ | (refine G.jk ?_; intro _)))
        refine G.ifd ?_ ?_ <;> intro hltj
        · have hj' : j < bs.length := by omega
          have htake := List.take_succ_eq_append_getElem hj'
          have hbm := hmem bs[j] (List.getElem_mem hj')
          have hcb : (bs.take j ++ [bs[j]]).count bs[j] ≤ (mv g bs[j]).count s := by
            rw [← hcnt _ hbm, ← htake]
            exact (List.take_sublist _ _).count_le _
          refine G.jnk (fun (_ : Unit) S' => ∃ y' : GhF, InvIn g (SN g n) (ln y'.ll) (ln y'.lo) y'.work v.ds s (bs.take (j + 1)) ∧ S' = St w0 h h3 [.blk sb [I s.1, I s.2.1, I s.2.2] 30, .blk ob [.map (some orr)] 102, .blk wb [slv y'.wq] 23, .ob orr (mO kSp vI y'.lo), .sl (slv y'.wq) 30 3 (fl eSp y'.work), .ob lr (mO kSp vI y'.ll)]) ?_ ?_
          · rintro _ _ ⟨y', hin', rfl⟩
            refine G.jk ?_; intro _
            (repeat (refine G.add (by omega) ?_))
            exact Gs.go (t' := I ((j + 1 : Nat) : Int)) (hc2 (j + 1, y') ⟨by dsimp only; omega, hin'⟩ (by dsimp only; omega)) (by simp)
          · intro k68 hk68
            refine Gs.indexE hq hj' ?_
            intro b2 o2 hp2
            refine Gs.loadE hp2 ?_
            rw [htake] at hk68
            generalize bs[j] = b at *
            (repeat (first | (refine Gs.alloc ?_; intro _) | refine Gs.store ?_ | refine Gs.dr ?_ | refine Gs.qkb ?_))
            rename_i bb
            refine Gs.qlookupC (ek := kSp) (ev := vI) b rfl ?_
            have hlf : ln y.ll b = ((mv g b).countP fun m => decide (m ∉ v.ds)) - (bs.take j).count b := hin.cnt b hbm
            have hcp := List.countP_le_length (p := fun m => decide (m ∉ v.ds)) (l := mv g b)
            have hmv := mv_len hg (s := b) ⟨hbm.1, hbm.2.1⟩
            have hct : (bs.take j).count b ≤ 33 := by
              have : (mv g b).count s ≤ (mv g b).length := List.count_le_length
              rw [List.count_append] at hcb
              omega
            rw [lkI]
            refine G.qsub (by omega) ?_
            refine Gs.mapEntry (ek := kSp) (ev := vI) b (0 : Int) rfl rfl ?_
            intro idx hidx
            (repeat (refine G.withT ?_))
            refine Gs.withLk (ek := kSp) (ev := vI) (by rw [lkI, ln_set, if_pos rfl]; rfl) ?_
            (repeat (refine G.qkp ?_))
            refine Gs.entryStore (ek := kSp) (ev := vI) (ln y.ll b - 1) hidx rfl ?_
            rw [mset_mset]
            (repeat (refine G.step ?_))
            refine Gs.lookup (ek := kSp) (ev := vI) s rfl ?_
            rw [lkI]
            (repeat (refine G.step ?_))
            have hsd : ln y.lo s ≠ 0 := (hin.dec s).2 (by simp)
            have hval := (hin.sound s hsd).2.val
            refine G.ifd ?_ ?_ <;> intro h3'
            · (repeat (refine G.step ?_))
              refine Gs.sel (L' := .blk ob [.map (some orr)] 102 :: .blk wb [slv y.wq] 23 :: .ob orr (mO kSp vI y.lo) :: .sl (slv y.wq) 30 3 (fl eSp y.work) :: [.blk sb [I s.1, I s.2.1, I s.2.2] 30, .ob lr (mO kSp vI (mset y.ll b (ln y.ll b - 1)))]) ?_
              obtain ⟨hA, hB⟩ := hin.step hbm hcb (.inl ⟨h3', rfl⟩)
              refine decide_in b 1 (by omega) ?_ ?_
              · intro h0
                refine Gs.sel (L' := LGs sb ob wb orr lr s { y with ll := mset y.ll b (ln y.ll b - 1) }) ?_
                refine hk68 () _ ⟨{ y with ll := mset y.ll b (ln y.ll b - 1) }, ?_, rfl⟩
                dsimp only
                rw [ln_upd]
                exact hB (.inl h0)
              · intro h0 wq'
                refine Gs.sel (L' := LGs sb ob wb orr lr s { y with ll := mset y.ll b (ln y.ll b - 1), lo := mset y.lo b 1, wq := wq', work := y.work ++ [b] }) ?_
                refine hk68 () _ ⟨{ y with ll := mset y.ll b (ln y.ll b - 1), lo := mset y.lo b 1, wq := wq', work := y.work ++ [b] }, ?_, rfl⟩
                dsimp only
                rw [ln_upd, ln_upd]
                exact hA h0 (by decide)
            · have h1' : ln y.lo s = 1 := by omega
              obtain ⟨hA, hB⟩ := hin.step hbm hcb (.inr ⟨h1', rfl⟩)
              (repeat (refine G.step ?_))
              refine Gs.lookup (ek := kSp) (ev := vI) b rfl ?_
              rw [lkI, ln_set, if_pos rfl]
              (repeat (refine G.step ?_))
              refine G.ifd ?_ ?_ <;> intro hz
              · (repeat (refine G.step ?_))
                refine Gs.sel (L' := .blk ob [.map (some orr)] 102 :: .blk wb [slv y.wq] 23 :: .ob orr (mO kSp vI y.lo) :: .sl (slv y.wq) 30 3 (fl eSp y.work) :: [.blk sb [I s.1, I s.2.1, I s.2.2] 30, .ob lr (mO kSp vI (mset y.ll b (ln y.ll b - 1)))]) ?_
                refine decide_in b 3 (by omega) ?_ ?_
                · intro h0
                  refine Gs.sel (L' := LGs sb ob wb orr lr s { y with ll := mset y.ll b (ln y.ll b - 1) }) ?_
                  refine hk68 () _ ⟨{ y with ll := mset y.ll b (ln y.ll b - 1) }, ?_, rfl⟩
                  dsimp only
                  rw [ln_upd]
                  exact hB (.inl h0)
                · intro h0 wq'
                  refine Gs.sel (L' := LGs sb ob wb orr lr s { y with ll := mset y.ll b (ln y.ll b - 1), lo := mset y.lo b 3, wq := wq', work := y.work ++ [b] }) ?_
                  refine hk68 () _ ⟨{ y with ll := mset y.ll b (ln y.ll b - 1), lo := mset y.lo b 3, wq := wq', work := y.work ++ [b] }, ?_, rfl⟩
                  dsimp only
                  rw [ln_upd, ln_upd]
                  have := hA h0 (by rw [if_pos hz]; decide)
                  rw [if_pos hz] at this
                  exact this
              · refine Gs.sel (L' := LGs sb ob wb orr lr s { y with ll := mset y.ll b (ln y.ll b - 1) }) ?_
                refine hk68 () _ ⟨{ y with ll := mset y.ll b (ln y.ll b - 1) }, ?_, rfl⟩
                dsimp only
                rw [ln_upd]
                exact hB (.inr (by rw [if_neg hz]))
        · have hj' : j = bs.length := by omega
          subst hj'
          rw [List.take_length] at hin
          refine Gs.goS (hc { y with ds := v.ds ++ [s] } (hin.out hcnt) (by simp; omega)) rfl
    · have hw0 : v.work = [] := List.eq_nil_of_length_eq_zero (by omega)
      have hv' := hv
      rw [hw0] at hv'
      (repeat (refine G.step ?_))
      refine Gs.freezeOb orr ?_
      intro h4 le4 hor
      exact Gs.ret ⟨orr, rfl, v.lo, hor, fun s hs => hv'.done hg hs⟩
end Go.Proofs.Ytnepdmnkhjpnhaa
end

section
set_option linter.unusedVariables false
set_option linter.unusedSimpArgs false
set_option linter.unusedSectionVars false
set_option maxHeartbeats 8000000
namespace Go.Proofs.Ytnepdmnkhjpnhaa
open Go Go.Sk Go.Lp Go.RowKit
variable {M : Go.Sk.Mode}
theorem Kn.mono {h h' : Hp} {r : Nat} {g : Gr} {n : Nat} (hle : Hle h h') (hk : Kn h r g n) : Kn h' r g n := by
  obtain ⟨l, h1, h2⟩ := hk
  exact ⟨l, hle _ _ h1, h2⟩
theorem result_ok (g : Gr) (n r : Nat) (s : Sp) (h : Hp) (hk : Kn h r g n) (hs : SN g n s) : Ct Try.prog 59 [.map (some r), vSp s] h (fun _ v => v = I (left g s)) := by
  obtain ⟨l, hr, hl⟩ := hk
  refine ct59 ?_
  intro w0
  unfold s59
  (repeat (first | refine G.step ?_ | (refine Gs.box ?_; intro _)))
  refine Gs.lookupF (ek := kSp) (ev := vI) s hr rfl ?_
  rw [lkI, hl s hs]
  have hc := res_cases g s
  (repeat (refine G.step ?_))
  refine G.ifd ?_ ?_ <;> intro h1
  · exact Gs.ret (by unfold left; rw [if_pos h1])
  · (repeat (refine G.step ?_))
    refine G.ifd ?_ ?_ <;> intro h2
    · (repeat (refine G.sub (by omega) ?_))
      exact Gs.ret (by unfold left; rw [if_neg h1, if_pos h2])
    · exact Gs.ret (by unfold left; rw [if_neg h1, if_neg h2])
theorem holds_ok (g : Gr) (n r : Nat) (s : Sp) (side : Int) (h : Hp) (hk : Kn h r g n) (hs : SN g n s) : Ct Try.prog 63 [.map (some r), vSp s, I side] h (fun _ v => v = .bool (decide (left g s ≠ lost side))) := by
  refine ct63 ?_
  intro w0
  unfold s63
  (repeat (refine Gs.box ?_; intro _))
  refine G.jnP (fun j => j = I (lost side)) ?_ ?_
  · rintro _ rfl
    refine G.jk ?_; intro _
    (repeat (refine G.step ?_))
    refine Gs.callv0 (result_ok g n r s h hk hs) ?_
    (repeat (refine G.step ?_))
    exact Gs.ret rfl
  · intro K hK
    (repeat (refine G.step ?_))
    refine G.ifd ?_ ?_ <;> intro h1
    · exact hK _ (by unfold lost; rw [if_pos h1])
    · exact hK _ (by unfold lost; rw [if_neg h1])
/-- What solving answers: the result and the error. -/
noncomputable def solv (g : Gr) (s : Sp) : Int × Int := if gvB g = true then (if SN g 16 s then (left g s, 0) else (0, 1)) else (0, 210)
theorem abs_max (a : Int) : max a (-a) = (a.natAbs : Int) := by omega
theorem solve_ok (g : Gr) (x : GrH) (s : Sp) (h : Hp) (hx : GrR h x g) (hs : GS g) : Ct Try.prog 32 [vG x, vSp s] h (fun _ v => v = .tuple #[I (solv g s).1, I (solv g s).2]) := by
  refine ct32 ?_
  intro w0
  unfold s32
  (repeat (first | refine G.step ?_ | (refine Gs.box ?_; intro _)))
  refine Gs.callv0 (valid_ok g x h hx hs) ?_
  (repeat (refine G.step ?_))
  refine G.ifb ?_ ?_ <;> intro h1
  · exact Gs.ret (by unfold solv; rw [if_neg (by simpa using h1)])
  · have hb : gvB g = true := by simpa using h1
    (repeat (refine G.step ?_))
    refine Gs.callv0 (validSpot_ok g x s h hx hs) ?_
    (repeat (refine G.step ?_))
    refine G.ifb ?_ ?_ <;> intro h2
    · exact Gs.ret (by unfold solv; rw [if_pos hb, if_neg (by simpa using h2)])
    · have hsn : SN g 16 s := by simpa using h2
      have hab := hsn.2.2
      (repeat (first | refine Gs.dr ?_ | refine G.qneg (by omega) ?_ | refine G.qkp ?_ | refine Gs.qkb ?_))
      rw [abs_max]
      refine Gs.call0 (results_ok g x s.2.1.natAbs h (abs16 hsn) hx (gvB_iff.1 hb)) ?_
      rintro _ h1 le1 ⟨r, rfl, hr⟩
      (repeat (refine Gs.withb ?_))
      refine Gs.callv0 (result_ok g _ r s h1 hr hsn.self) ?_
      exact Gs.ret (by unfold solv; rw [if_pos hb, if_pos hsn])
/-- What is said of bounds. -/
def BdS (g : Gr) (node : Int) (b : Int × Int × Int) : Prop := (gvB g = false ∧ b = (0, 0, 210)) ∨ (gvB g = true ∧ ¬ (0 ≤ node ∧ node < g.L.length) ∧ b = (0, 0, 1)) ∨ (gvB g = true ∧ (0 ≤ node ∧ node < g.L.length) ∧ loB (LoP g node) b.1 ∧ hiB (HiP g node) b.2.1 ∧ b.2.2 = 0)
theorem BdS.uniq {g : Gr} {node : Int} {b c : Int × Int × Int} (h : BdS g node b) (h' : BdS g node c) : b = c := by
  obtain ⟨b1, b2, b3⟩ := b
  obtain ⟨c1, c2, c3⟩ := c
  rcases h with ⟨h1, e⟩ | ⟨h1, h2, e⟩ | ⟨h1, h2, h3, h4, h5⟩
  · rcases h' with ⟨g1, e'⟩ | ⟨g1, g2, e'⟩ | ⟨g1, g2, g3, g4, g5⟩
    · rw [e, e']
    · rw [h1] at g1; cases g1
    · rw [h1] at g1; cases g1
  · rcases h' with ⟨g1, e'⟩ | ⟨g1, g2, e'⟩ | ⟨g1, g2, g3, g4, g5⟩
    · rw [h1] at g1; cases g1
    · rw [e, e']
    · exact absurd g2 h2
  · rcases h' with ⟨g1, e'⟩ | ⟨g1, g2, e'⟩ | ⟨g1, g2, g3, g4, g5⟩
    · rw [h1] at g1; cases g1
    · exact absurd h2 g2
    · dsimp only at *
      rw [h3.uniq g3, h4.uniq g4, h5, g5]
noncomputable instance {g : Gr} {node k : Int} : Decidable (LoP g node k) := by unfold LoP; infer_instance
noncomputable instance {g : Gr} {node k : Int} : Decidable (HiP g node k) := by unfold HiP; infer_instance
theorem bounds_ok (g : Gr) (x : GrH) (node : Int) (h : Hp) (hx : GrR h x g) (hs : GS g) (hnode : -1152921504606846976 ≤ node ∧ node ≤ 1152921504606846976) : Ct Try.prog 47 [vG x, I node] h (fun _ v => ∃ b : Int × Int × Int, BdS g node b ∧ v = .tuple #[.agg #[I b.1, I b.2.1], I b.2.2]) := by
  refine ct47 ?_
  intro w0
  unfold s47
  have hl := hs.l
  (repeat (first | refine G.step ?_ | (refine Gs.box ?_; intro _) | (refine Gs.alloc ?_; intro _)))
  rename_i xb rb
  refine Gs.callv0 (valid_ok g x h hx hs) ?_
  (repeat (refine G.step ?_))
  refine G.ifb ?_ ?_ <;> intro h1
  · (repeat (first | refine G.step ?_ | refine Gs.store ?_ | refine G.retc ?_))
    exact Gs.ret ⟨(0, 0, 210), .inl ⟨by simpa using h1, rfl⟩, rfl⟩
  · have hb : gvB g = true := by simpa using h1
    refine G.jnP (fun j => j = .bool (decide (node < 0 ∨ (g.L.length : Int) ≤ node))) ?_ ?_
    · rintro _ rfl
      refine G.jk ?_; intro _
      refine G.ifd ?_ ?_ <;> intro h2
      · (repeat (first | refine G.step ?_ | refine Gs.store ?_ | refine G.retc ?_))
        exact Gs.ret ⟨(0, 0, 1), .inr (.inl ⟨hb, by omega, rfl⟩), rfl⟩
      · (repeat (refine G.step ?_))
        refine Gs.call0 (results_ok g x 8 h (by omega) hx (gvB_iff.1 hb)) ?_
        rintro _ h1 le1 ⟨r, rfl, hr⟩
        refine Gs.lp (β := Int) (fun u => I u) (fun _ => h1) (fun _ => [.blk rb [I 0, I 0] 44, .blk xb [slv x.1, slv x.2] 27]) (fun u => -9 ≤ u ∧ u ≤ 8 ∧ ∀ k, u < k → k ≤ 8 → ¬ LoP g node k) (fun u => (u + 9).toNat) 8 rfl ⟨by omega, by omega, fun k _ _ => by omega⟩ (fun _ s => s) ?_
        rintro lo ⟨hlo1, hlo2, hlo3⟩ cont hc
        refine G.jk ?_; intro _
        refine G.jnP (fun j => j = .bool (decide (-8 ≤ lo ∧ ¬ LoP g node lo))) ?_ ?_
        · rintro _ rfl
          refine G.jk ?_; intro _
          refine G.ifd ?_ ?_ <;> intro h3
          · (repeat (refine G.sub (by omega) ?_))
            refine Gs.go (hc (lo - 1) ⟨by omega, by omega, fun k hk1 hk2 => ?_⟩ (by omega)) rfl
            by_cases e : k = lo
            · subst e; exact h3.2
            · exact hlo3 k (by omega) hk2
          · have hLo : loB (LoP g node) lo := ⟨hlo1, hlo2, fun h8 => Decidable.byContradiction fun hn => h3 ⟨h8, hn⟩, hlo3⟩
            refine Gs.lp (β := Int) (fun u => I u) (fun _ => h1) (fun _ => [.blk rb [I 0, I 0] 44, .blk xb [slv x.1, slv x.2] 27]) (fun u => -8 ≤ u ∧ u ≤ 9 ∧ ∀ k, k < u → -8 ≤ k → ¬ HiP g node k) (fun u => (9 - u).toNat) (-8) rfl ⟨by omega, by omega, fun k _ _ => by omega⟩ (fun _ s => s) ?_
            rintro hi ⟨hhi1, hhi2, hhi3⟩ cont2 hc2
            refine G.jk ?_; intro _
            refine G.jnP (fun j => j = .bool (decide (hi ≤ 8 ∧ ¬ HiP g node hi))) ?_ ?_
            · rintro _ rfl
              refine G.jk ?_; intro _
              refine G.ifd ?_ ?_ <;> intro h4
              · (repeat (refine G.add (by omega) ?_))
                refine Gs.go (hc2 (hi + 1) ⟨by omega, by omega, fun k hk1 hk2 => ?_⟩ (by omega)) rfl
                by_cases e : k = hi
                · subst e; exact h4.2
                · exact hhi3 k (by omega) hk2
              · have hHi : hiB (HiP g node) hi := ⟨hhi1, hhi2, fun h8 => Decidable.byContradiction fun hn => h4 ⟨h8, hn⟩, hhi3⟩
                (repeat (first | refine G.step ?_ | refine Gs.store ?_ | refine G.retc ?_))
                exact Gs.ret ⟨(lo, hi, 0), .inr (.inr ⟨hb, by omega, hLo, hHi, rfl⟩), rfl⟩
            · intro K hK
              (repeat (refine G.step ?_))
              refine G.gddt ?_ ?_ <;> intro c1
              · (repeat (first | refine G.neg (by omega) ?_ | refine G.step ?_))
                refine Gs.callv0 (holds_ok g 8 r (node, -hi, 0) 1 h1 hr (by unfold SN; dsimp only; omega)) ?_
                (repeat (refine G.step ?_))
                refine hK _ ?_
                rw [← decide_not]
                congr 1
                rw [decide_eq_decide]
                exact ⟨fun h => ⟨c1, h⟩, fun h => h.2⟩
              · exact hK _ (by rw [decide_eq_false]; exact fun h => c1 h.1)
        · intro K hK
          (repeat (refine G.step ?_))
          refine G.gddt ?_ ?_ <;> intro c1
          · (repeat (first | refine G.neg (by omega) ?_ | refine G.step ?_))
            refine Gs.callv0 (holds_ok g 8 r (node, -lo, 1) 0 h1 hr (by unfold SN; dsimp only; omega)) ?_
            (repeat (refine G.step ?_))
            refine hK _ ?_
            rw [← decide_not]
            congr 1
            rw [decide_eq_decide]
            exact ⟨fun h => ⟨c1, h⟩, fun h => h.2⟩
          · exact hK _ (by rw [decide_eq_false]; exact fun h => c1 h.1)
    · intro K hK
      (repeat (refine G.step ?_))
      refine G.gddf ?_ ?_ <;> intro c1
      · exact hK _ (by rw [decide_eq_true]; exact .inl c1)
      · (repeat (refine G.step ?_))
        refine Gs.lenF hx.l (by omega) ?_
        (repeat (refine G.step ?_))
        exact hK _ (by congr 1; rw [decide_eq_decide]; omega)
end Go.Proofs.Ytnepdmnkhjpnhaa
end

