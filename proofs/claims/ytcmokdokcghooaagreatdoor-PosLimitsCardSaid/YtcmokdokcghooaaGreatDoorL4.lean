/-
  Lemmas for the proof of the statement of this claim: a part of the road, no statement of its own. Conditions: those that each lemma names.
-/
import Derived.Test.YtcmokdokcghooaaGreatDoorKe
import Derived.Test.YtcmokdokcghooaaGreatDoorKi
section
set_option linter.unusedVariables false
set_option maxHeartbeats 8000000
namespace Go.Proofs.YtcmokdokcghooaaGreatDoor
open Go Go.Sk Go.Pr Go.Ps Go.RowKit
instance (priority := 500) Sel.tailX {L : List Itm} : Sel L L := ⟨[], by simp⟩
instance (priority := 400) Sel.skipX {it : Itm} {L r : List Itm} [h : Sel L r] : Sel (it :: L) r := ⟨by
  obtain ⟨R, hR⟩ := h.ok
  exact ⟨it :: R, (hR.cons it).trans List.perm_middle.symm⟩⟩
theorem made4_in {w0 : World} {h0 h : Hp} {L : List Itm} {K : Value → WP} (g : Gm) (x : GmH) (r : Nat → UInt8) (hg : gmR h x g) (hG : GoodG g)
    (hK : ∀ (v qa qb : SlH) (p : Pt), ValidS g p → Gs w0 h0 h (.sl (slv v) 3 1 (fl eInt p.c) :: .sl (slv qa) 3 1 (fl eInt p.a) :: .sl (slv qb) 3 1 (fl eInt p.b) :: L) (K (vPos (v, qa, qb, p.r, p.s)))) : Gs w0 h0 h L (Do Tryz.prog (vCall (.func (.func 15) #[] ⟨[]⟩) [vGm g x, vRw r]) K) := by
  refine in15 ?_
  unfold s15
  have hk1 := hG.k.l1
  have hk2 := hG.k.l2
  have hr2 := hG.r
  have hc1 := hG.b.c1
  have hc9 := hG.b.c9
  have hpow : (1 : Int) ≤ 2 ^ g.rights ∧ (2 : Int) ^ g.rights ≤ 4 := by
    refine ⟨?_, pow_le4 hr2⟩
    have := Nat.one_le_two_pow (n := g.rights)
    have e : ((2 ^ g.rights : Nat) : Int) = (2 : Int) ^ g.rights := by simp
    omega
  have hb := fun i => u8lt (r i)
  have hkl : RdF h (slv x.2.2.1) eKd 3 kdR g.kinds := hg.k
  (repeat (first | (refine Gs.box ?_; intro _) | (refine Gs.alloc ?_; intro _)))
  rename_i gb xb tb
  refine G.jnk (fun a S' => ∃ (pb : Nat) (v : SlH) (R Sd : Int), a = ptr pb 0 ∧ 0 ≤ R ∧ R < 2 ^ g.rights ∧ (Sd = 0 ∨ Sd = 1) ∧ S' = St w0 h0 h (.blk pb [slv v, .slice none 0 0, .slice none 0 0, I R, I Sd] 44 :: .sl (slv v) 3 1 (fl eInt (List.replicate g.cells 0)) :: .blk tb [.slice none 0 0, .slice none 0 0, .slice none 0 0, I 0, I 0] 44 :: .blk xb (eRw r) 30 :: .blk gb [I g.cells, slv x.1, slv x.2.1, slv x.2.2.1, I g.rights, .bool g.must, slv x.2.2.2, I g.blocked, I g.endless] 39 :: L)) ?_ ?_
  · rintro a _ ⟨pb, v, R, Sd, rfl, hR0, hR1, hSd, rfl⟩
    refine G.jk ?_; intro _
    refine Gs.sel (L' := (.sl (slv v) 3 1 (fl eInt (List.replicate g.cells 0)) :: .blk pb [slv v, .slice none 0 0, .slice none 0 0, I R, I Sd] 44 :: .blk tb [.slice none 0 0, .slice none 0 0, .slice none 0 0, I 0, I 0] 44 :: .blk xb (eRw r) 30 :: .blk gb [I g.cells, slv x.1, slv x.2.1, slv x.2.2.1, I g.rights, .bool g.must, slv x.2.2.2, I g.blocked, I g.endless] 39 :: L)) ?_
    refine Gs.lp (β := Nat × List Int) (fun u => I u.1) (fun _ => h) (fun u => (.sl (slv v) 3 1 (fl eInt u.2) :: .blk pb [slv v, .slice none 0 0, .slice none 0 0, I R, I Sd] 44 :: .blk tb [.slice none 0 0, .slice none 0 0, .slice none 0 0, I 0, I 0] 44 :: .blk xb (eRw r) 30 :: .blk gb [I g.cells, slv x.1, slv x.2.1, slv x.2.2.1, I g.rights, .bool g.must, slv x.2.2.2, I g.blocked, I g.endless] 39 :: L)) (fun u => u.1 ≤ 6 ∧ cellsB g u.2) (fun u => 6 - u.1) (0, List.replicate g.cells 0) rfl ⟨by simp, by simp, fun n hn => by have := List.eq_of_mem_replicate hn; omega⟩ (fun _ s => s) ?_
    rintro ⟨i, cl⟩ ⟨hi, hcl⟩ cont hc
    dsimp only at *
    (repeat (first | refine G.step ?_ | (refine G.jk ?_; intro _)))
    refine G.ifd ?_ ?_ <;> intro hlt
    · refine G.jnk (fun _ S' => ∃ l', cellsB g l' ∧ S' = St w0 h0 h (.sl (slv v) 3 1 (fl eInt l') :: .blk pb [slv v, .slice none 0 0, .slice none 0 0, I R, I Sd] 44 :: .blk tb [.slice none 0 0, .slice none 0 0, .slice none 0 0, I 0, I 0] 44 :: .blk xb (eRw r) 30 :: .blk gb [I g.cells, slv x.1, slv x.2.1, slv x.2.2.1, I g.rights, .bool g.must, slv x.2.2.2, I g.blocked, I g.endless] 39 :: L)) ?_ ?_
      · rintro a _ ⟨l', hl', rfl⟩
        refine G.jk ?_; intro _
        (repeat (refine G.add (by omega) ?_))
        exact Gs.goS (hc (i + 1, l') ⟨by dsimp only; omega, hl'⟩ (by dsimp only; omega)) rfl
      · intro k' hk'
        (repeat (first | refine Gs.dr ?_ | refine G.qkp ?_))
        refine G.qixN (i := i) (n := 6) (by omega) ?_
        refine Gs.qldN (by rw [Nat.zero_add, Nat.mul_one]; exact eRw_at r (by omega)) ?_
        refine G.qconv (by have := hb i; omega) ?_
        (repeat (first | refine G.qadd (by omega) ?_ | refine G.qkp ?_ | refine Gs.qkb ?_))
        refine G.qremN (by omega) (by omega) ?_
        obtain ⟨c, hc', hcle⟩ : ∃ c : Nat, ((r i).toNat : Int) % ((g.cells : Int) + 1) = c ∧ c ≤ g.cells := ⟨(r i).toNat % (g.cells + 1), by simp, by have := Nat.mod_lt (r i).toNat (show 0 < g.cells + 1 by omega); omega⟩
        rw [hc']
        refine G.jnP (fun j => j = .bool (decide (c < g.cells))) ?_ ?_
        · rintro j rfl
          refine G.jk ?_; intro _
          refine G.ifd ?_ ?_ <;> intro hlc
          · (repeat (first | refine Gs.dr ?_ | refine G.qkp ?_ | refine Gs.qkb ?_))
            refine G.qixN (i := i) (n := 6) (by omega) ?_
            refine Gs.qldN (by rw [Nat.mul_one]; exact eRw_at r (by omega)) ?_
            refine G.qconv (by have := hb (6 + i); omega) ?_
            (repeat (first | refine G.qkp ?_ | refine Gs.qkb ?_))
            refine Gs.qlenF hkl (by omega) ?_
            refine G.qremN (by omega) (by omega) ?_
            obtain ⟨k, hk, hkle⟩ : ∃ k : Nat, ((r (6 + i)).toNat : Int) % (g.kinds.length : Int) = k ∧ k < g.kinds.length := ⟨(r (6 + i)).toNat % g.kinds.length, by simp, Nat.mod_lt _ (by omega)⟩
            rw [hk]
            (repeat (first | refine G.qadd (by omega) ?_ | refine G.qmul (by omega) ?_))
            refine G.qremN (by omega) (by omega) ?_
            (repeat (refine G.qadd (by omega) ?_))
            refine Gs.qsetE (enc := eInt) (l := cl) (a := 1 + 2 * (k : Int) + (i : Int) % 2) (i := c) (by rw [hcl.1]; exact hlc) ?_
            intro _
            refine hk' _ _ ⟨_, ⟨by rw [List.length_set]; exact hcl.1, fun n hn => ?_⟩, rfl⟩
            rcases mem_set hn with rfl | hn
            · omega
            · exact hcl.2 n hn
          · exact hk' _ _ ⟨cl, hcl, rfl⟩
        · intro K hK
          (repeat (refine G.step ?_))
          refine G.gddt ?_ ?_ <;> intro hlc
          · (repeat (refine G.step ?_))
            refine Gs.lenF hkl (by omega) ?_
            (repeat (refine G.step ?_))
            exact hK _ (by congr 1; rw [decide_eq_decide]; omega)
          · exact hK _ (by rw [decide_eq_false (by omega)])
    · have hhand : ∀ l : List Int, l.length = g.kinds.length → (∀ j (h1 : j < l.length) (h2 : j < g.kinds.length), 0 ≤ l[j] ∧ l[j] ≤ 8 ∧ (0 < l[j] → g.kinds[j].keep = true)) → handB g.kinds l = true := fun l h1 h2 => handP_iff h1 h2
      clear hc
      refine Gs.nilsl 3 1 ?_
      refine Gs.nilsl 3 1 ?_
      refine Gs.sel (L' := (.blk pb [slv v, .slice none 0 0, .slice none 0 0, I R, I Sd] 44 :: .sl (.slice none 0 0) 3 1 [] :: .sl (.slice none 0 0) 3 1 [] :: .sl (slv v) 3 1 (fl eInt cl) :: .blk tb [.slice none 0 0, .slice none 0 0, .slice none 0 0, I 0, I 0] 44 :: .blk xb (eRw r) 30 :: .blk gb [I g.cells, slv x.1, slv x.2.1, slv x.2.2.1, I g.rights, .bool g.must, slv x.2.2.2, I g.blocked, I g.endless] 39 :: L)) ?_
      refine Gs.lp (β := Int × SlH × List Int × SlH × List Int) (fun u => I u.1) (fun _ => h) (fun u => (.blk pb [slv v, slv u.2.1, slv u.2.2.2.1, I R, I Sd] 44 :: .sl (slv u.2.1) 3 1 (fl eInt u.2.2.1) :: .sl (slv u.2.2.2.1) 3 1 (fl eInt u.2.2.2.2) :: .sl (slv v) 3 1 (fl eInt cl) :: .blk tb [.slice none 0 0, .slice none 0 0, .slice none 0 0, I 0, I 0] 44 :: .blk xb (eRw r) 30 :: .blk gb [I g.cells, slv x.1, slv x.2.1, slv x.2.2.1, I g.rights, .bool g.must, slv x.2.2.2, I g.blocked, I g.endless] 39 :: L)) (fun u => u.1 ≤ 2 ∧ ((u.1 = 0 ∧ u.2.1 = (none, 0, 0) ∧ u.2.2.1 = [] ∧ u.2.2.2.1 = (none, 0, 0) ∧ u.2.2.2.2 = []) ∨ (u.1 = 1 ∧ handB g.kinds u.2.2.1 = true ∧ u.2.2.2.1 = (none, 0, 0) ∧ u.2.2.2.2 = []) ∨ (u.1 = 2 ∧ handB g.kinds u.2.2.1 = true ∧ handB g.kinds u.2.2.2.2 = true))) (fun u => (2 - u.1).toNat) (0, (none, 0, 0), [], (none, 0, 0), []) rfl ⟨by simp, .inl ⟨rfl, rfl, rfl, rfl, rfl⟩⟩ (fun _ s => s) ?_
      rintro ⟨s, qa, la, qb, lb⟩ ⟨hs2, hs⟩ cont2 hc2
      dsimp only at *
      rcases hs with ⟨rfl, rfl, rfl, rfl, rfl⟩ | ⟨rfl, hla, rfl, rfl⟩ | ⟨rfl, hla, hlb⟩
      · (repeat (first | refine G.step ?_ | refine G.ift ?_ | (refine G.jk ?_; intro _)))
        refine Gs.lenF hkl (by omega) ?_
        refine Gs.make (enc := eInt) (a0 := 0) rfl (by omega) (by omega) (by omega) ?_
        intro v1
        refine Gs.slH (v := v1) ?_
        rintro q rfl
        rw [Int.toNat_natCast]
        (repeat (first | refine G.step ?_ | refine Gs.store ?_))
        refine Gs.sel (L' := (.sl (slv q) 3 1 (fl eInt (List.replicate g.kinds.length 0)) :: .blk pb [slv v, slv q, .slice none 0 0, I R, I Sd] 44 :: .sl (slv v) 3 1 (fl eInt cl) :: .blk tb [.slice none 0 0, .slice none 0 0, .slice none 0 0, I 0, I 0] 44 :: .blk xb (eRw r) 30 :: .blk gb [I g.cells, slv x.1, slv x.2.1, slv x.2.2.1, I g.rights, .bool g.must, slv x.2.2.2, I g.blocked, I g.endless] 39 :: L)) ?_
        refine Gs.lp (β := Nat × List Int) (fun u => I u.1) (fun _ => h) (fun u => (.sl (slv q) 3 1 (fl eInt u.2) :: .blk pb [slv v, slv q, .slice none 0 0, I R, I Sd] 44 :: .sl (slv v) 3 1 (fl eInt cl) :: .blk tb [.slice none 0 0, .slice none 0 0, .slice none 0 0, I 0, I 0] 44 :: .blk xb (eRw r) 30 :: .blk gb [I g.cells, slv x.1, slv x.2.1, slv x.2.2.1, I g.rights, .bool g.must, slv x.2.2.2, I g.blocked, I g.endless] 39 :: L)) (fun u => u.1 ≤ g.kinds.length ∧ u.2.length = g.kinds.length ∧ ∀ j (h1 : j < u.2.length) (h2 : j < g.kinds.length), 0 ≤ u.2[j] ∧ u.2[j] ≤ 8 ∧ (0 < u.2[j] → g.kinds[j].keep = true)) (fun u => g.kinds.length - u.1) (0, List.replicate g.kinds.length 0) rfl ⟨Nat.zero_le _, by simp, fun j h1 h2 => by simp⟩ (fun _ s => s) ?_
        rintro u ⟨hu1, hu2, hu3⟩ cont3 hc3
        (repeat (refine G.jk ?_; intro _))
        refine G.jnP (fun j => j = .bool (decide (u.1 < g.kinds.length))) ?_ ?_
        · rintro j rfl
          refine G.jk ?_; intro _
          refine G.ifd ?_ ?_ <;> intro hlt2
          · refine G.jnk (fun _ S' => ∃ l' : List Int, (l'.length = g.kinds.length ∧ ∀ j (h1 : j < l'.length) (h2 : j < g.kinds.length), 0 ≤ l'[j] ∧ l'[j] ≤ 8 ∧ (0 < l'[j] → g.kinds[j].keep = true)) ∧ S' = St w0 h0 h (.sl (slv q) 3 1 (fl eInt l') :: .blk pb [slv v, slv q, .slice none 0 0, I R, I Sd] 44 :: .sl (slv v) 3 1 (fl eInt cl) :: .blk tb [.slice none 0 0, .slice none 0 0, .slice none 0 0, I 0, I 0] 44 :: .blk xb (eRw r) 30 :: .blk gb [I g.cells, slv x.1, slv x.2.1, slv x.2.2.1, I g.rights, .bool g.must, slv x.2.2.2, I g.blocked, I g.endless] 39 :: L)) ?_ ?_
            · rintro a _ ⟨l', hl', rfl⟩
              refine G.jk ?_; intro _
              (repeat (refine G.add (by omega) ?_))
              exact Gs.goS (hc3 (u.1 + 1, l') ⟨by dsimp only; omega, hl'⟩ (by dsimp only; omega)) rfl
            · intro k3 hk3
              (repeat (refine G.step ?_))
              refine Gs.indexF hkl hlt2 ?_
              intro kb ko kx hpt hkx
              (repeat (refine G.step ?_))
              refine Gs.loadP1 hpt.field ?_
              rw [hkx.k]
              refine G.ifb ?_ ?_ <;> intro hkeep
              · (repeat (first | refine Gs.dr ?_ | refine G.qadd (by omega) ?_ | refine G.qmul (by omega) ?_ | refine G.qkp ?_ | refine Gs.qkb ?_))
                rw [show (2 : Int) * 0 + (u.1 : Int) = ((u.1 : Nat) : Int) by omega]
                refine G.qixN (i := u.1) (n := 4) (by omega) ?_
                refine Gs.qldN (by rw [Nat.mul_one]; exact eRw_at r (i := 12 + u.1) (by omega)) ?_
                have hbb := hb (12 + u.1)
                refine G.qconv (by omega) ?_
                refine G.qremN (by omega) (by omega) ?_
                refine Gs.qsetE (enc := eInt) (l := u.2) (a := ((r (12 + u.1)).toNat : Int) % 3) (i := u.1) (by omega) ?_
                intro _
                have hset : ∀ (l : List Int) (a : Int), 0 ≤ a ∧ a ≤ 8 → (l.length = g.kinds.length ∧ ∀ j (h1 : j < l.length) (h2 : j < g.kinds.length), 0 ≤ l[j] ∧ l[j] ≤ 8 ∧ (0 < l[j] → g.kinds[j].keep = true)) → ((l.set u.1 a).length = g.kinds.length ∧ ∀ j (h1 : j < (l.set u.1 a).length) (h2 : j < g.kinds.length), 0 ≤ (l.set u.1 a)[j] ∧ (l.set u.1 a)[j] ≤ 8 ∧ (0 < (l.set u.1 a)[j] → g.kinds[j].keep = true)) := fun l a ha hl => by
                  refine ⟨by rw [List.length_set]; exact hl.1, fun j h1 h2 => ?_⟩
                  rw [List.getElem_set]
                  split
                  · rename_i e
                    subst e
                    exact ⟨ha.1, ha.2, fun _ => hkeep⟩
                  · exact hl.2 j (by rw [List.length_set] at h1; exact h1) h2
                have hs1 := hset u.2 (((r (12 + u.1)).toNat : Int) % 3) (by omega) ⟨hu2, hu3⟩
                (repeat (first | refine G.add (by omega) ?_ | refine G.mul (by omega) ?_ | refine G.step ?_))
                rw [show (2 : Int) * 0 + (u.1 : Int) = ((u.1 : Nat) : Int) by omega]
                refine G.ixN (i := u.1) (n := 4) (by omega) ?_
                refine Gs.ldN (by rw [Nat.mul_one]; exact eRw_at r (i := 12 + u.1) (by omega)) ?_
                (repeat (refine G.step ?_))
                refine G.ifd ?_ ?_ <;> intro hbig
                · (repeat (refine G.step ?_))
                  refine Gs.setE (enc := eInt) (l := u.2.set u.1 (((r (12 + u.1)).toNat : Int) % 3)) (a := 8) (i := u.1) (by rw [hs1.1]; exact hlt2) ?_
                  intro _
                  exact hk3 _ _ ⟨_, hset _ 8 (by omega) hs1, rfl⟩
                · exact hk3 _ _ ⟨_, hs1, rfl⟩
              · exact hk3 _ _ ⟨u.2, ⟨hu2, hu3⟩, rfl⟩
          · (repeat (refine G.add (by omega) ?_))
            refine Gs.nilsl 3 1 ?_
            exact Gs.goS (L' := (.blk pb [slv v, slv q, .slice none 0 0, I R, I Sd] 44 :: .sl (slv q) 3 1 (fl eInt u.2) :: .sl (.slice none 0 0) 3 1 [] :: .sl (slv v) 3 1 (fl eInt cl) :: .blk tb [.slice none 0 0, .slice none 0 0, .slice none 0 0, I 0, I 0] 44 :: .blk xb (eRw r) 30 :: .blk gb [I g.cells, slv x.1, slv x.2.1, slv x.2.2.1, I g.rights, .bool g.must, slv x.2.2.2, I g.blocked, I g.endless] 39 :: L)) (hc2 (1, q, u.2, (none, 0, 0), []) ⟨by simp, .inr (.inl ⟨rfl, hhand u.2 hu2 hu3, rfl, rfl⟩)⟩ (by dsimp only; omega)) rfl
        · intro K hK
          (repeat (refine G.step ?_))
          refine Gs.lenF hkl (by omega) ?_
          (repeat (refine G.step ?_))
          refine G.gddt ?_ ?_ <;> intro hlt2
          · (repeat (refine G.step ?_))
            exact hK _ (by congr 1; rw [decide_eq_decide]; omega)
          · exact hK _ (by rw [decide_eq_false (by omega)])
      · (repeat (first | refine G.step ?_ | refine G.ift ?_ | (refine G.jk ?_; intro _)))
        refine Gs.lenF hkl (by omega) ?_
        refine Gs.make (enc := eInt) (a0 := 0) rfl (by omega) (by omega) (by omega) ?_
        intro v1
        refine Gs.slH (v := v1) ?_
        rintro q rfl
        rw [Int.toNat_natCast]
        (repeat (first | refine G.step ?_ | refine Gs.store ?_))
        refine Gs.sel (L' := (.sl (slv q) 3 1 (fl eInt (List.replicate g.kinds.length 0)) :: .blk pb [slv v, slv qa, slv q, I R, I Sd] 44 :: .sl (slv qa) 3 1 (fl eInt la) :: .sl (slv v) 3 1 (fl eInt cl) :: .blk tb [.slice none 0 0, .slice none 0 0, .slice none 0 0, I 0, I 0] 44 :: .blk xb (eRw r) 30 :: .blk gb [I g.cells, slv x.1, slv x.2.1, slv x.2.2.1, I g.rights, .bool g.must, slv x.2.2.2, I g.blocked, I g.endless] 39 :: L)) ?_
        refine Gs.lp (β := Nat × List Int) (fun u => I u.1) (fun _ => h) (fun u => (.sl (slv q) 3 1 (fl eInt u.2) :: .blk pb [slv v, slv qa, slv q, I R, I Sd] 44 :: .sl (slv qa) 3 1 (fl eInt la) :: .sl (slv v) 3 1 (fl eInt cl) :: .blk tb [.slice none 0 0, .slice none 0 0, .slice none 0 0, I 0, I 0] 44 :: .blk xb (eRw r) 30 :: .blk gb [I g.cells, slv x.1, slv x.2.1, slv x.2.2.1, I g.rights, .bool g.must, slv x.2.2.2, I g.blocked, I g.endless] 39 :: L)) (fun u => u.1 ≤ g.kinds.length ∧ u.2.length = g.kinds.length ∧ ∀ j (h1 : j < u.2.length) (h2 : j < g.kinds.length), 0 ≤ u.2[j] ∧ u.2[j] ≤ 8 ∧ (0 < u.2[j] → g.kinds[j].keep = true)) (fun u => g.kinds.length - u.1) (0, List.replicate g.kinds.length 0) rfl ⟨Nat.zero_le _, by simp, fun j h1 h2 => by simp⟩ (fun _ s => s) ?_
        rintro u ⟨hu1, hu2, hu3⟩ cont3 hc3
        (repeat (refine G.jk ?_; intro _))
        refine G.jnP (fun j => j = .bool (decide (u.1 < g.kinds.length))) ?_ ?_
        · rintro j rfl
          refine G.jk ?_; intro _
          refine G.ifd ?_ ?_ <;> intro hlt2
          · refine G.jnk (fun _ S' => ∃ l' : List Int, (l'.length = g.kinds.length ∧ ∀ j (h1 : j < l'.length) (h2 : j < g.kinds.length), 0 ≤ l'[j] ∧ l'[j] ≤ 8 ∧ (0 < l'[j] → g.kinds[j].keep = true)) ∧ S' = St w0 h0 h (.sl (slv q) 3 1 (fl eInt l') :: .blk pb [slv v, slv qa, slv q, I R, I Sd] 44 :: .sl (slv qa) 3 1 (fl eInt la) :: .sl (slv v) 3 1 (fl eInt cl) :: .blk tb [.slice none 0 0, .slice none 0 0, .slice none 0 0, I 0, I 0] 44 :: .blk xb (eRw r) 30 :: .blk gb [I g.cells, slv x.1, slv x.2.1, slv x.2.2.1, I g.rights, .bool g.must, slv x.2.2.2, I g.blocked, I g.endless] 39 :: L)) ?_ ?_
            · rintro a _ ⟨l', hl', rfl⟩
              refine G.jk ?_; intro _
              (repeat (refine G.add (by omega) ?_))
              exact Gs.goS (hc3 (u.1 + 1, l') ⟨by dsimp only; omega, hl'⟩ (by dsimp only; omega)) rfl
            · intro k3 hk3
              (repeat (refine G.step ?_))
              refine Gs.indexF hkl hlt2 ?_
              intro kb ko kx hpt hkx
              (repeat (refine G.step ?_))
              refine Gs.loadP1 hpt.field ?_
              rw [hkx.k]
              refine G.ifb ?_ ?_ <;> intro hkeep
              · (repeat (first | refine Gs.dr ?_ | refine G.qadd (by omega) ?_ | refine G.qmul (by omega) ?_ | refine G.qkp ?_ | refine Gs.qkb ?_))
                rw [show (2 : Int) * 1 + (u.1 : Int) = ((2 + u.1 : Nat) : Int) by omega]
                refine G.qixN (i := 2 + u.1) (n := 4) (by omega) ?_
                refine Gs.qldN (by rw [Nat.mul_one]; exact eRw_at r (i := 12 + (2 + u.1)) (by omega)) ?_
                have hbb := hb (12 + (2 + u.1))
                refine G.qconv (by omega) ?_
                refine G.qremN (by omega) (by omega) ?_
                refine Gs.qsetE (enc := eInt) (l := u.2) (a := ((r (12 + (2 + u.1))).toNat : Int) % 3) (i := u.1) (by omega) ?_
                intro _
                have hset : ∀ (l : List Int) (a : Int), 0 ≤ a ∧ a ≤ 8 → (l.length = g.kinds.length ∧ ∀ j (h1 : j < l.length) (h2 : j < g.kinds.length), 0 ≤ l[j] ∧ l[j] ≤ 8 ∧ (0 < l[j] → g.kinds[j].keep = true)) → ((l.set u.1 a).length = g.kinds.length ∧ ∀ j (h1 : j < (l.set u.1 a).length) (h2 : j < g.kinds.length), 0 ≤ (l.set u.1 a)[j] ∧ (l.set u.1 a)[j] ≤ 8 ∧ (0 < (l.set u.1 a)[j] → g.kinds[j].keep = true)) := fun l a ha hl => by
                  refine ⟨by rw [List.length_set]; exact hl.1, fun j h1 h2 => ?_⟩
                  rw [List.getElem_set]
                  split
                  · rename_i e
                    subst e
                    exact ⟨ha.1, ha.2, fun _ => hkeep⟩
                  · exact hl.2 j (by rw [List.length_set] at h1; exact h1) h2
                have hs1 := hset u.2 (((r (12 + (2 + u.1))).toNat : Int) % 3) (by omega) ⟨hu2, hu3⟩
                (repeat (first | refine G.add (by omega) ?_ | refine G.mul (by omega) ?_ | refine G.step ?_))
                rw [show (2 : Int) * 1 + (u.1 : Int) = ((2 + u.1 : Nat) : Int) by omega]
                refine G.ixN (i := 2 + u.1) (n := 4) (by omega) ?_
                refine Gs.ldN (by rw [Nat.mul_one]; exact eRw_at r (i := 12 + (2 + u.1)) (by omega)) ?_
                (repeat (refine G.step ?_))
                refine G.ifd ?_ ?_ <;> intro hbig
                · (repeat (refine G.step ?_))
                  refine Gs.setE (enc := eInt) (l := u.2.set u.1 (((r (12 + (2 + u.1))).toNat : Int) % 3)) (a := 8) (i := u.1) (by rw [hs1.1]; exact hlt2) ?_
                  intro _
                  exact hk3 _ _ ⟨_, hset _ 8 (by omega) hs1, rfl⟩
                · exact hk3 _ _ ⟨_, hs1, rfl⟩
              · exact hk3 _ _ ⟨u.2, ⟨hu2, hu3⟩, rfl⟩
          · (repeat (refine G.add (by omega) ?_))
            exact Gs.goS (hc2 (2, qa, la, q, u.2) ⟨by simp, .inr (.inr ⟨rfl, hla, hhand u.2 hu2 hu3⟩)⟩ (by dsimp only; omega)) rfl
        · intro K hK
          (repeat (refine G.step ?_))
          refine Gs.lenF hkl (by omega) ?_
          (repeat (refine G.step ?_))
          refine G.gddt ?_ ?_ <;> intro hlt2
          · (repeat (refine G.step ?_))
            exact hK _ (by congr 1; rw [decide_eq_decide]; omega)
          · exact hK _ (by rw [decide_eq_false (by omega)])
      · (repeat (first | refine G.step ?_ | refine Gs.store ?_ | refine G.retc ?_ | refine G.iff ?_ | (refine G.jk ?_; intro _)))
        refine Gs.sel (L' := .sl (slv v) 3 1 (fl eInt cl) :: .sl (slv qa) 3 1 (fl eInt la) :: .sl (slv qb) 3 1 (fl eInt lb) :: L) ?_
        exact hK v qa qb ⟨cl, la, lb, R, Sd⟩ ⟨hcl.1, hcl.2, hla, hlb, ⟨hR0, hR1⟩, hSd⟩
  · intro k' hk'
    (repeat (first | refine Gs.dr ?_ | refine G.qkp ?_ | refine Gs.qkb ?_))
    refine Gs.qldN (eRw_at r (i := 16) (by omega)) ?_
    refine G.qconv (by have := hb 16; omega) ?_
    (repeat (first | refine G.qkp ?_ | refine Gs.qkb ?_))
    refine G.qshl1 (by omega) ?_
    refine G.qremN (by omega) (by omega) ?_
    (repeat (refine G.qkp ?_))
    refine Gs.qldN (eRw_at r (i := 17) (by omega)) ?_
    refine G.qrem8 (by omega) (by omega) ?_
    refine G.qconv (by omega) ?_
    have hm0 := Int.emod_nonneg (((r 16).toNat : Int)) (show (2 : Int) ^ g.rights ≠ 0 by omega)
    have hm1 := Int.emod_lt_of_pos (((r 16).toNat : Int)) (show (0 : Int) < 2 ^ g.rights by omega)
    have hs0 : ((r 17).toNat : Int) % 2 = 0 ∨ ((r 17).toNat : Int) % 2 = 1 := by omega
    generalize ((r 16).toNat : Int) % 2 ^ g.rights = R at *
    generalize ((r 17).toNat : Int) % 2 = Sd at *
    refine G.or2 ?_ ?_
    · refine Gs.make (enc := eInt) (a0 := 0) rfl (by omega) (by omega) (by omega) ?_
      intro v
      refine Gs.slH (v := v) ?_
      rintro q rfl
      rw [Int.toNat_natCast]
      (repeat (first | (refine Gs.alloc ?_; intro _) | refine Gs.store ?_ | refine G.qkp ?_ | refine G.withT ?_ | refine Gs.withb ?_))
      refine hk' _ _ ⟨_, q, R, Sd, rfl, hm0, hm1, hs0, rfl⟩
    · (repeat (first | (refine Gs.alloc ?_; intro _) | refine G.withT ?_ | refine Gs.withb ?_))
      refine Gs.make (enc := eInt) (a0 := 0) rfl (by omega) (by omega) (by omega) ?_
      intro v
      refine Gs.slH (v := v) ?_
      rintro q rfl
      rw [Int.toNat_natCast]
      (repeat (first | refine Gs.store ?_ | refine G.qkp ?_ | refine G.withT ?_ | refine Gs.withb ?_))
      refine hk' _ _ ⟨_, q, R, Sd, rfl, hm0, hm1, hs0, rfl⟩
end Go.Proofs.YtcmokdokcghooaaGreatDoor
end

section
set_option linter.unusedVariables false
set_option maxHeartbeats 4000000
namespace Go.Proofs.YtcmokdokcghooaaGreatDoor
open Go Go.Sk Go.Pr Go.Ps Go.RowKit
theorem u32_bd (n : Int) : 0 ≤ IntKind.u32.wrap n ∧ IntKind.u32.wrap n ≤ 4294967295 := by
  simp [IntKind.wrap, IntKind.bits, IntKind.signed]; omega
theorem wrap32 {a : Int} (h : 0 ≤ a ∧ a ≤ 4294967295) : IntKind.u32.wrap a = a := by simp [IntKind.wrap, IntKind.bits, IntKind.signed]; omega
theorem G.rem32 {S : WP} {K : Value → WP} {t : TypeId} {a b : Int} (ha : 0 ≤ a) (hb : b ≠ 0) (hk : G S (K (.int .u32 (a % b)))) : G S (Do Tryz.prog (V (binOp .rem t (.int .u32 a) (.int .u32 b))) K) :=
  haveI := Yd.rem (P := Tryz.prog) (S := S) (t := t) (k := .u32) (a := a) hb
  G.step (by rw [Int.tmod_eq_emod_of_nonneg ha]; exact hk)
theorem Yd.quo32 {S : WP} {t : TypeId} {a b : Int} (ha : 0 ≤ a ∧ a ≤ 4294967295) (hb : 0 < b) : Yd Tryz.prog S (V (binOp .quo t (.int .u32 a) (.int .u32 b))) (.int .u32 (a / b)) := Yd.of fun w => by
  have h1 := Int.ediv_nonneg ha.1 (Int.le_of_lt hb)
  have h2 := Int.ediv_le_self b ha.1
  simp only [binOp, ne_eq, not_true, if_false, Op.intDiv, if_neg (show ¬ b = 0 by omega), Int.tdiv_eq_ediv_of_nonneg ha.1, wrap32 (a := a / b) (by omega)]
  rfl
theorem G.quo32 {S : WP} {K : Value → WP} {t : TypeId} {a b : Int} (ha : 0 ≤ a ∧ a ≤ 4294967295) (hb : 0 < b) (hk : G S (K (.int .u32 (a / b)))) : G S (Do Tryz.prog (V (binOp .quo t (.int .u32 a) (.int .u32 b))) K) :=
  haveI := Yd.quo32 (S := S) (t := t) ha hb
  G.step hk
end Go.Proofs.YtcmokdokcghooaaGreatDoor
end

section
set_option linter.unusedVariables false
set_option maxHeartbeats 4000000
namespace Go.Proofs.YtcmokdokcghooaaGreatDoor
open Go Go.Sk Go.Pr Go.Ps Go.RowKit
theorem validP_dec {g : Gm} {p : Pt} {q : Prop} [Decidable q] (h : ValidS g p ↔ q) : validP g p = decide q := by
  rw [Bool.eq_iff_iff, validP_iff, decide_eq_true_eq]
  exact h
theorem lim_cell {g : Gm} {p : Pt} (hv : ValidS g p) {c : Nat} (hc : c < p.c.length) (n : Int) : validP g ⟨p.c.set c n, p.a, p.b, p.r, p.s⟩ = decide (0 ≤ n ∧ n ≤ 2 * g.kinds.length) := validP_dec ⟨fun h => h.cc n (by
    show n ∈ p.c.set c n
    exact List.mem_iff_getElem.2 ⟨c, by rw [List.length_set]; exact hc, by simp⟩), fun h => ⟨by show (p.c.set c n).length = _; rw [List.length_set]; exact hv.lc, fun m hm => by
    rcases List.mem_or_eq_of_mem_set hm with hm | rfl
    · exact hv.cc m hm
    · exact h, hv.ha, hv.hb, hv.r, hv.s⟩⟩
theorem lim_rights {g : Gm} {p : Pt} (hv : ValidS g p) (n : Int) : validP g ⟨p.c, p.a, p.b, n, p.s⟩ = decide (0 ≤ n ∧ n < 2 ^ g.rights) := validP_dec ⟨fun h => h.r, fun h => ⟨hv.lc, hv.cc, hv.ha, hv.hb, h, hv.s⟩⟩
theorem lim_side {g : Gm} {p : Pt} (hv : ValidS g p) (n : Int) : validP g ⟨p.c, p.a, p.b, p.r, n⟩ = decide (n = 0 ∨ n = 1) := validP_dec ⟨fun h => h.s, fun h => ⟨hv.lc, hv.cc, hv.ha, hv.hb, hv.r, h⟩⟩
theorem lim_long {g : Gm} {p : Pt} (hv : ValidS g p) : validP g ⟨p.c ++ [0], p.a, p.b, p.r, p.s⟩ = false := by
  rw [validP_dec (q := False) ⟨fun h => by have := h.lc; have := hv.lc; simp at *; omega, False.elim⟩]
  rfl
theorem lim_short {g : Gm} {p : Pt} (hv : ValidS g p) {k : Nat} (hk : k < g.kinds.length) (s : Bool) : validP g ⟨p.c, if s then p.a else p.a.take k, if s then p.b.take k else p.b, p.r, p.s⟩ = false := by
  rw [validP_dec (q := False) ⟨fun h => ?_, False.elim⟩]
  · rfl
  · cases s
    · have := handB_len h.ha
      simp at this
      omega
    · have := handB_len h.hb
      simp at this
      omega
theorem handB_set : ∀ {ks : List Kd} {l : List Int} {k : Nat} (h : handB ks l = true) (hk : k < ks.length) (n : Int), handB ks (l.set k n) = true ↔ (0 ≤ n ∧ n ≤ 8 ∧ (0 < n → ks[k].keep = true))
  | [], _, _, _, hk, _ => absurd hk (by simp)
  | _ :: _, [], _, h, _, _ => by simp [handB] at h
  | kd :: ks, m :: l, 0, h, hk, n => by
    unfold handB at h
    simp only [Bool.and_eq_true] at h
    simp only [List.set_cons_zero, handB, h.2, Bool.and_true, decide_eq_true_eq, List.getElem_cons_zero]
  | kd :: ks, m :: l, k + 1, h, hk, n => by
    unfold handB at h
    simp only [Bool.and_eq_true] at h
    have ih := handB_set h.2 (k := k) (by simpa using hk) n
    simp only [List.set_cons_succ, handB, h.1, Bool.true_and, ih, List.getElem_cons_succ]
end Go.Proofs.YtcmokdokcghooaaGreatDoor
end

section
set_option linter.unusedVariables false
set_option maxHeartbeats 4000000
namespace Go.Proofs.YtcmokdokcghooaaGreatDoor
open Go Go.Sk Go.Pr Go.Ps Go.RowKit
instance ix3i0 {S : WP} {b o : Nat} : Yd Tryz.prog S (V (Instr.indexAt 55 (ptr b o) (.int .i64 0))) (ptr b o) := Yd.ixA (sz := 1) (e := 21) (n := 3) ⟨by decide, by decide⟩ rfl
instance ix3i1 {S : WP} {b o c : Nat} [hc : AddN o 1 c] : Yd Tryz.prog S (V (Instr.indexAt 55 (ptr b o) (.int .i64 1))) (ptr b c) := Yd.ixA (sz := 1) (e := 21) (n := 3) ⟨by decide, by decide⟩ hc.ok
instance ix3i2 {S : WP} {b o c : Nat} [hc : AddN o 2 c] : Yd Tryz.prog S (V (Instr.indexAt 55 (ptr b o) (.int .i64 2))) (ptr b c) := Yd.ixA (sz := 1) (e := 21) (n := 3) ⟨by decide, by decide⟩ hc.ok
abbrev LP4 (pb gb : Nat) (g : Gm) (xg : GmH) (v qa qb : SlH) (p : Pt) : List Itm := .blk pb [slv v, slv qa, slv qb, I p.r, I p.s] 44 :: .sl (slv v) 3 1 (fl eInt p.c) :: .sl (slv qa) 3 1 (fl eInt p.a) :: .sl (slv qb) 3 1 (fl eInt p.b) :: [.blk gb [I g.cells, slv xg.1, slv xg.2.1, slv xg.2.2.1, I g.rights, .bool g.must, slv xg.2.2.2, I g.blocked, I g.endless] 39]
theorem lim_handA {g : Gm} {p : Pt} (hv : ValidS g p) {k : Nat} (hk : k < g.kinds.length) (n : Int) : validP g ⟨p.c, p.a.set k n, p.b, p.r, p.s⟩ = decide (0 ≤ n ∧ n ≤ 8 ∧ (0 < n → g.kinds[k].keep = true)) := validP_dec ⟨fun h => (handB_set hv.ha hk n).1 h.ha, fun h => ⟨hv.lc, hv.cc, (handB_set hv.ha hk n).2 h, hv.hb, hv.r, hv.s⟩⟩
theorem lim_handB {g : Gm} {p : Pt} (hv : ValidS g p) {k : Nat} (hk : k < g.kinds.length) (n : Int) : validP g ⟨p.c, p.a, p.b.set k n, p.r, p.s⟩ = decide (0 ≤ n ∧ n ≤ 8 ∧ (0 < n → g.kinds[k].keep = true)) := validP_dec ⟨fun h => (handB_set hv.hb hk n).1 h.hb, fun h => ⟨hv.lc, hv.cc, hv.ha, (handB_set hv.hb hk n).2 h, hv.r, hv.s⟩⟩
theorem lim_shortA {g : Gm} {p : Pt} (hv : ValidS g p) {k : Nat} (hk : k < g.kinds.length) : validP g ⟨p.c, p.a.take k, p.b, p.r, p.s⟩ = false := lim_short hv hk false
theorem lim_shortB {g : Gm} {p : Pt} (hv : ValidS g p) {k : Nat} (hk : k < g.kinds.length) : validP g ⟨p.c, p.a, p.b.take k, p.r, p.s⟩ = false := lim_short hv hk true
theorem G.shlN {S : WP} {K : Value → WP} {t : TypeId} {r : Nat} (h : r ≤ 20) (hk : G S (K (I (2 ^ r)))) : G S (Do Tryz.prog (V (binOp .shl t (I 1) (I r))) K) := by
  obtain ⟨h1, h2⟩ := shl1 r h
  haveI : Yd Tryz.prog S (V (binOp .shl t (I 1) (I r))) (I (2 ^ r)) := by
    have := Yd.shl (P := Tryz.prog) (S := S) (t := t) (yk := .i64) (a := 1) (y := r) (by omega) h2
    rw [h1] at this
    exact this
  exact G.step hk
theorem limits_ok (x : RwG) (b0 b1 : List UInt8) (C : List (UInt8 × UInt8 × UInt8)) (r : Nat → UInt8) (a b c : Int) (ha : -2147483648 ≤ a ∧ a ≤ 2147483647) (h : Hp) (hE : Env h) (hx : RgR h x b0 b1 C) : Ct Tryz.prog 4 [vRg x, vRw r, .agg #[.int .i32 a, .int .i32 b, .int .i32 c]] h (fun _ y => y = .bool true) := by
  refine ct4 ?_
  intro w0
  unfold s4
  have cb := u32_bd c
  have bb := u32_bd b
  (repeat (refine Gs.box ?_; intro _))
  rename_i xb yb vb
  refine Gs.callv0 (sanity_ok h hE) ?_
  (repeat (refine G.step ?_))
  refine Gs.call0 (made3_ok x b0 b1 C h hx) ?_
  rintro _ h1 le1 ⟨xg, g, rfl, hg, hG⟩
  have hk1 := hG.k.l1
  have hk2 := hG.k.l2
  have hr2 := hG.r
  have hc1 := hG.b.c1
  have hc9 := hG.b.c9
  (repeat (first | refine G.step ?_ | (refine Gs.alloc ?_; intro _) | refine Gs.store ?_))
  rename_i gb
  refine made4_in g xg r hg hG ?_
  intro v qa qb p hpv
  (repeat (first | refine G.conv (by omega) ?_ | refine G.step ?_ | (refine Gs.alloc ?_; intro _) | refine Gs.store ?_))
  rename_i pb
  dsimp only
  have hlen := hpv.lens
  have hL1 : p.c.length ≤ 20 := by omega
  have hL2 : p.a.length ≤ 20 := by omega
  have hL3 : p.b.length ≤ 20 := by omega
  have hkk : GoodK g.next.length g.rights g.kinds := hG.k
  have hh3 : gmR h1 xg g := hg
  skip
  refine Gs.lenF hg.k (by omega) ?_
  (repeat (first | refine G.rem (by omega) ?_ | refine G.step ?_))
  refine G.quo32 cb (by omega) ?_
  (repeat (first | refine G.rem (by omega) ?_ | refine G.conv (by omega) ?_))
  rw [Int.tmod_eq_emod_of_nonneg (show 0 ≤ IntKind.u32.wrap c / 16 by omega), Int.tmod_eq_emod_of_nonneg cb.1]
  obtain ⟨s, hs, hs2⟩ : ∃ s : Nat, IntKind.u32.wrap c / 16 % 2 = s ∧ s < 2 := ⟨(IntKind.u32.wrap c / 16 % 2).toNat, by omega, by omega⟩
  obtain ⟨k, hk, hklt⟩ : ∃ k : Nat, IntKind.u32.wrap c % (g.kinds.length : Int) = k ∧ k < g.kinds.length := by
    have e1 := Int.emod_nonneg (IntKind.u32.wrap c) (show (g.kinds.length : Int) ≠ 0 by omega)
    have e2 := Int.emod_lt_of_pos (IntKind.u32.wrap c) (show (0 : Int) < g.kinds.length by omega)
    exact ⟨((IntKind.u32.wrap c) % (g.kinds.length : Int)).toNat, by omega, by omega⟩
  rw [hs, hk]
  refine G.jnk (fun w S' => ∃ (p' : Pt) (v' qa' qb' : SlH), w = .bool (validP g p') ∧ p'.c.length ≤ 20 ∧ p'.a.length ≤ 20 ∧ p'.b.length ≤ 20 ∧ S' = St w0 h h1 (LP4 pb gb g xg v' qa' qb' p')) ?_ ?_
  · rintro _ _ ⟨p', v', qa', qb', rfl, l1, l2, l3, rfl⟩
    refine G.jk ?_; intro _
    refine Gs.freezeE (enc := eInt) (v := slv v') (by decide) ?_
    intro h2 le2 f1
    refine Gs.freezeE (enc := eInt) (v := slv qa') (by decide) ?_
    intro h3 le3 f2
    refine Gs.freezeE (enc := eInt) (v := slv qb') (by decide) ?_
    intro h4 le4 f3
    (repeat (first | refine G.step ?_ | refine G.gdtt ?_))
    refine Gs.callv0 (pvalid_ok g xg (v', qa', qb', p'.r, p'.s) p' h4 (hg.mono (le2.trans (le3.trans le4))) (by omega) (by omega) (by omega) ⟨f1.mono (le3.trans le4), f2.mono le4, f3, rfl, rfl, by omega, by omega, by omega⟩) ?_
    (repeat (refine G.step ?_))
    exact Gs.ret (by simp)
  · intro k31 hk31
    have hcl : 0 < p.c.length := by omega
    (repeat (refine G.step ?_))
    refine G.rem32 bb.1 (by omega) ?_
    (repeat (refine G.step ?_))
    refine G.ifd ?_ ?_ <;> intro c0
    · -- a cell
      obtain ⟨d, hd, hdlt⟩ : ∃ d : Nat, IntKind.u32.wrap c % (p.c.length : Int) = d ∧ d < p.c.length := by
        have e1 := Int.emod_nonneg (IntKind.u32.wrap c) (show (p.c.length : Int) ≠ 0 by omega)
        have e2 := Int.emod_lt_of_pos (IntKind.u32.wrap c) (show (0 : Int) < p.c.length by omega)
        exact ⟨((IntKind.u32.wrap c) % (p.c.length : Int)).toNat, by omega, by omega⟩
      (repeat (first | refine Gs.dr ?_ | refine G.qkp ?_ | refine Gs.qkb ?_))
      refine Gs.qolen (enc := eInt) (by omega) ?_
      rw [wrap_in (by omega)]
      refine G.qremN cb.1 (by omega) ?_
      rw [hd]
      refine Gs.qsetE (enc := eInt) (l := p.c) (a := a) (i := d) hdlt ?_
      intro _
      (repeat (refine G.step ?_))
      refine G.gddt ?_ ?_ <;> intro a0
      · (repeat (refine G.step ?_))
        refine Gs.lenF hg.k (by omega) ?_
        (repeat (first | refine G.mul (by omega) ?_ | refine G.step ?_))
        refine Gs.sel (L' := LP4 pb gb g xg v qa qb ⟨p.c.set d a, p.a, p.b, p.r, p.s⟩) ?_
        exact hk31 _ _ ⟨⟨p.c.set d a, p.a, p.b, p.r, p.s⟩, v, qa, qb, by rw [lim_cell hpv hdlt a]; congr 1; rw [decide_eq_decide]; omega, by simp; omega, hL2, hL3, rfl⟩
      · refine Gs.sel (L' := LP4 pb gb g xg v qa qb ⟨p.c.set d a, p.a, p.b, p.r, p.s⟩) ?_
        exact hk31 _ _ ⟨⟨p.c.set d a, p.a, p.b, p.r, p.s⟩, v, qa, qb, by rw [lim_cell hpv hdlt a, decide_eq_false]; omega, by simp; omega, hL2, hL3, rfl⟩
    · (repeat (refine G.step ?_))
      refine G.ifd ?_ ?_ <;> intro c1
      · (repeat (refine G.step ?_))
        refine G.ixN (i := s) (n := 2) hs2 ?_
        obtain rfl | rfl : s = 0 ∨ s = 1 := by omega
        · rw [show 1 + 0 * 1 = 1 from rfl]
          (repeat (refine G.step ?_))
          refine Gs.setE (enc := eInt) (l := p.a) (a := a) (i := k) (by omega) ?_
          intro _
          (repeat (refine G.step ?_))
          refine G.gddf ?_ ?_ <;> intro a0
          · refine Gs.sel (L' := LP4 pb gb g xg v qa qb ⟨p.c, p.a.set k a, p.b, p.r, p.s⟩) ?_
            exact hk31 _ _ ⟨⟨p.c, p.a.set k a, p.b, p.r, p.s⟩, v, qa, qb, by rw [lim_handA hpv hklt, decide_eq_true]; exact ⟨by omega, by omega, fun h => by omega⟩, hL1, by simp; omega, hL3, rfl⟩
          · (repeat (refine G.step ?_))
            refine G.gddt ?_ ?_ <;> intro a1
            · (repeat (refine G.step ?_))
              refine G.gddt ?_ ?_ <;> intro a8
              · (repeat (refine G.step ?_))
                refine Gs.indexF hg.k hklt ?_
                intro kb ko kx hpt hkx
                (repeat (refine G.step ?_))
                refine Gs.loadP1 hpt.field ?_
                rw [hkx.k]
                refine Gs.sel (L' := LP4 pb gb g xg v qa qb ⟨p.c, p.a.set k a, p.b, p.r, p.s⟩) ?_
                exact hk31 _ _ ⟨⟨p.c, p.a.set k a, p.b, p.r, p.s⟩, v, qa, qb, by rw [lim_handA hpv hklt]; congr 1; rw [Bool.eq_iff_iff, decide_eq_true_eq]; exact ⟨fun h => ⟨by omega, by omega, fun _ => h⟩, fun h => h.2.2 a1⟩, hL1, by simp; omega, hL3, rfl⟩
              · refine Gs.sel (L' := LP4 pb gb g xg v qa qb ⟨p.c, p.a.set k a, p.b, p.r, p.s⟩) ?_
                exact hk31 _ _ ⟨⟨p.c, p.a.set k a, p.b, p.r, p.s⟩, v, qa, qb, by rw [lim_handA hpv hklt, decide_eq_false]; omega, hL1, by simp; omega, hL3, rfl⟩
            · refine Gs.sel (L' := LP4 pb gb g xg v qa qb ⟨p.c, p.a.set k a, p.b, p.r, p.s⟩) ?_
              exact hk31 _ _ ⟨⟨p.c, p.a.set k a, p.b, p.r, p.s⟩, v, qa, qb, by rw [lim_handA hpv hklt, decide_eq_false]; omega, hL1, by simp; omega, hL3, rfl⟩
        · rw [show 1 + 1 * 1 = 2 from rfl]
          (repeat (refine G.step ?_))
          refine Gs.setE (enc := eInt) (l := p.b) (a := a) (i := k) (by omega) ?_
          intro _
          (repeat (refine G.step ?_))
          refine G.gddf ?_ ?_ <;> intro a0
          · refine Gs.sel (L' := LP4 pb gb g xg v qa qb ⟨p.c, p.a, p.b.set k a, p.r, p.s⟩) ?_
            exact hk31 _ _ ⟨⟨p.c, p.a, p.b.set k a, p.r, p.s⟩, v, qa, qb, by rw [lim_handB hpv hklt, decide_eq_true]; exact ⟨by omega, by omega, fun h => by omega⟩, hL1, hL2, by simp; omega, rfl⟩
          · (repeat (refine G.step ?_))
            refine G.gddt ?_ ?_ <;> intro a1
            · (repeat (refine G.step ?_))
              refine G.gddt ?_ ?_ <;> intro a8
              · (repeat (refine G.step ?_))
                refine Gs.indexF hg.k hklt ?_
                intro kb ko kx hpt hkx
                (repeat (refine G.step ?_))
                refine Gs.loadP1 hpt.field ?_
                rw [hkx.k]
                refine Gs.sel (L' := LP4 pb gb g xg v qa qb ⟨p.c, p.a, p.b.set k a, p.r, p.s⟩) ?_
                exact hk31 _ _ ⟨⟨p.c, p.a, p.b.set k a, p.r, p.s⟩, v, qa, qb, by rw [lim_handB hpv hklt]; congr 1; rw [Bool.eq_iff_iff, decide_eq_true_eq]; exact ⟨fun h => ⟨by omega, by omega, fun _ => h⟩, fun h => h.2.2 a1⟩, hL1, hL2, by simp; omega, rfl⟩
              · refine Gs.sel (L' := LP4 pb gb g xg v qa qb ⟨p.c, p.a, p.b.set k a, p.r, p.s⟩) ?_
                exact hk31 _ _ ⟨⟨p.c, p.a, p.b.set k a, p.r, p.s⟩, v, qa, qb, by rw [lim_handB hpv hklt, decide_eq_false]; omega, hL1, hL2, by simp; omega, rfl⟩
            · refine Gs.sel (L' := LP4 pb gb g xg v qa qb ⟨p.c, p.a, p.b.set k a, p.r, p.s⟩) ?_
              exact hk31 _ _ ⟨⟨p.c, p.a, p.b.set k a, p.r, p.s⟩, v, qa, qb, by rw [lim_handB hpv hklt, decide_eq_false]; omega, hL1, hL2, by simp; omega, rfl⟩
      · (repeat (refine G.step ?_))
        refine G.ifd ?_ ?_ <;> intro c2
        · (repeat (first | refine G.step ?_ | refine Gs.store ?_))
          refine G.gddt ?_ ?_ <;> intro a0
          · (repeat (refine G.step ?_))
            refine G.shlN (by omega) ?_
            (repeat (refine G.step ?_))
            refine Gs.sel (L' := LP4 pb gb g xg v qa qb ⟨p.c, p.a, p.b, a, p.s⟩) ?_
            exact hk31 _ _ ⟨⟨p.c, p.a, p.b, a, p.s⟩, v, qa, qb, by rw [lim_rights hpv a]; congr 1; rw [decide_eq_decide]; exact ⟨fun h => ⟨a0, h⟩, fun h => h.2⟩, hL1, hL2, hL3, rfl⟩
          · refine Gs.sel (L' := LP4 pb gb g xg v qa qb ⟨p.c, p.a, p.b, a, p.s⟩) ?_
            exact hk31 _ _ ⟨⟨p.c, p.a, p.b, a, p.s⟩, v, qa, qb, by rw [lim_rights hpv a, decide_eq_false]; exact fun h => a0 h.1, hL1, hL2, hL3, rfl⟩
        · (repeat (refine G.step ?_))
          refine G.ifd ?_ ?_ <;> intro c3
          · (repeat (first | refine G.step ?_ | refine Gs.store ?_))
            refine G.gddf ?_ ?_ <;> intro a0
            · refine Gs.sel (L' := LP4 pb gb g xg v qa qb ⟨p.c, p.a, p.b, p.r, a⟩) ?_
              exact hk31 _ _ ⟨⟨p.c, p.a, p.b, p.r, a⟩, v, qa, qb, by rw [lim_side hpv a, decide_eq_true (.inl a0)], hL1, hL2, hL3, rfl⟩
            · (repeat (refine G.step ?_))
              refine Gs.sel (L' := LP4 pb gb g xg v qa qb ⟨p.c, p.a, p.b, p.r, a⟩) ?_
              exact hk31 _ _ ⟨⟨p.c, p.a, p.b, p.r, a⟩, v, qa, qb, by rw [lim_side hpv a]; congr 1; rw [decide_eq_decide]; exact ⟨.inr, fun h => h.elim (fun h' => absurd h' a0) id⟩, hL1, hL2, hL3, rfl⟩
          · (repeat (refine G.step ?_))
            refine G.ifd ?_ ?_ <;> intro c4
            · (repeat (refine G.step ?_))
              refine Gs.push (enc := eInt) (a := (0 : Int)) (by decide) (by decide) (by omega) (by omega) ?_
              intro s' v'
              refine Gs.slH (v := v') ?_
              rintro q' rfl
              (repeat (first | refine G.step ?_ | refine Gs.store ?_))
              refine Gs.sel (L' := LP4 pb gb g xg q' qa qb ⟨p.c ++ [0], p.a, p.b, p.r, p.s⟩) ?_
              exact hk31 _ _ ⟨⟨p.c ++ [0], p.a, p.b, p.r, p.s⟩, q', qa, qb, by rw [lim_long hpv], by simp; omega, hL2, hL3, rfl⟩
            · (repeat (refine G.step ?_))
              refine G.ixN (i := s) (n := 2) hs2 ?_
              obtain rfl | rfl : s = 0 ∨ s = 1 := by omega
              · rw [show 1 + 0 * 1 = 1 from rfl]
                (repeat (refine G.step ?_))
                refine Gs.cutO (enc := eInt) (v := slv qa) (lo := none) (hi := some (k : Int)) (by simp [cutLo]) (by simp [cutHi]; omega) (by intro i e; cases e) (by intro i e; cases e; omega) ?_
                intro v'
                refine Gs.slH (v := v') ?_
                rintro q' rfl
                rw [show (p.a.take (cutHi (some (k : Int)) p.a.length)).drop (cutLo none) = p.a.take k by simp [cutHi, cutLo]]
                (repeat (refine G.step ?_))
                refine G.ixN (i := 0) (n := 2) (by decide) ?_
                rw [show 1 + 0 * 1 = 1 from rfl]
                (repeat (refine Gs.store ?_))
                refine Gs.sel (L' := LP4 pb gb g xg v q' qb ⟨p.c, p.a.take k, p.b, p.r, p.s⟩) ?_
                exact hk31 _ _ ⟨⟨p.c, p.a.take k, p.b, p.r, p.s⟩, v, q', qb, by rw [lim_shortA hpv hklt], hL1, by simp; omega, hL3, rfl⟩
              · rw [show 1 + 1 * 1 = 2 from rfl]
                (repeat (refine G.step ?_))
                refine Gs.cutO (enc := eInt) (v := slv qb) (lo := none) (hi := some (k : Int)) (by simp [cutLo]) (by simp [cutHi]; omega) (by intro i e; cases e) (by intro i e; cases e; omega) ?_
                intro v'
                refine Gs.slH (v := v') ?_
                rintro q' rfl
                rw [show (p.b.take (cutHi (some (k : Int)) p.b.length)).drop (cutLo none) = p.b.take k by simp [cutHi, cutLo]]
                (repeat (refine G.step ?_))
                refine G.ixN (i := 1) (n := 2) (by decide) ?_
                rw [show 1 + 1 * 1 = 2 from rfl]
                (repeat (refine Gs.store ?_))
                refine Gs.sel (L' := LP4 pb gb g xg v qa q' ⟨p.c, p.a, p.b.take k, p.r, p.s⟩) ?_
                exact hk31 _ _ ⟨⟨p.c, p.a, p.b.take k, p.r, p.s⟩, v, qa, q', by rw [lim_shortB hpv hklt], hL1, hL2, by simp; omega, rfl⟩
end Go.Proofs.YtcmokdokcghooaaGreatDoor
end

section
set_option linter.unusedVariables false
set_option maxRecDepth 100000
namespace Go.Proofs.YtcmokdokcghooaaGreatDoor
open Go Go.Sk Go.Pr Go.Ps Go.RowKit Go.WideShapes Go.ChangeShapes Go.ChangeAt
theorem bounds_i32 {z : Int} (h : (Lit.int .i32 z).wf = true) : -2147483648 ≤ z ∧ z ≤ 2147483647 := by
  simp [Lit.wf, IntKind.min, IntKind.max, IntKind.bits, IntKind.signed] at h
  omega
theorem ints3_open {H : Type} {enc : TypeId × Value → H} {W : World} {base : Nat} {v : Value} {d : DataW H} {p : List MemPlace} (hval : Value.okWide Tryz.prog W .any base 55 v) (h : DataW.Trod enc Tryz.prog W 0 (fun _ => true) true 55 v d p) : ∃ a b c : Int, v = .agg #[.int .i32 a, .int .i32 b, .int .i32 c] ∧ (-2147483648 ≤ a ∧ a ≤ 2147483647) := by
  obtain ⟨cs, rfl, hsz⟩ := okWide_arr Tryz.underlying55 hval
  obtain ⟨fuel, hf⟩ := h
  obtain ⟨l⟩ := cs
  obtain ⟨zs, hz, hcs, hw⟩ := op_ints Tryz.underlying55 Tryz.underlying21 (by kernel_rfl) (by kernel_rfl) hf
  match zs, hz with
  | [a, b, c], _ =>
    have : l = [.int .i32 a, .int .i32 b, .int .i32 c] := hcs
    subst this
    exact ⟨a, b, c, rfl, bounds_i32 (hw a (by simp))⟩
end Go.Proofs.YtcmokdokcghooaaGreatDoor
end

