/-
  Lemmas for the proof of the statement of this claim: a part of the road, no statement of its own. Conditions: those that each lemma names.
-/
import Derived.Test.YtnepdmnkhjpnhaaKc
import Derived.Test.YtnepdmnkhjpnhaaSh
import Derived.Test.YtnepdmnkhjpnhaaKg
section
set_option linter.unusedVariables false
set_option linter.unusedSimpArgs false
set_option linter.unusedSectionVars false
set_option maxHeartbeats 8000000
namespace Go.Proofs.Ytnepdmnkhjpnhaa
open Go Go.Sk Go.Lp Go.RowKit
variable {M : Go.Sk.Mode}
abbrev vBo : Bool → Value := fun b => .bool b
/-- Sets of spots as maps to truth values. -/
def lb (l : List (Sp × Bool)) (s : Sp) : Bool := (mget l s).getD false
theorem lkBo (l : List (Sp × Bool)) (s : Sp) : lk1 vBo (.bool false) l s = .bool (lb l s) := by
  unfold lk1 lb
  cases mget l s <;> rfl
theorem lb_set (l : List (Sp × Bool)) (s t : Sp) : lb (mset l s true) t = (decide (t = s) || lb l t) := by
  unfold lb
  rw [mget_mset]
  by_cases e : t = s <;> simp [e]
theorem lb_mem {l : List (Sp × Bool)} (hl : ∀ p ∈ l, p.2 = true) (s : Sp) : lb l s = true ↔ ∃ p ∈ l, p.1 = s := by
  unfold lb
  induction l with
  | nil => simp [mget]
  | cons p l ih =>
    obtain ⟨k, v⟩ := p
    have hv : v = true := hl (k, v) (by simp)
    subst hv
    simp only [mget]
    by_cases e : s = k
    · subst e; simp
    · rw [if_neg e, ih (fun p hp => hl p (by simp [hp]))]
      simp [Ne.symm e]
theorem mset_true {l : List (Sp × Bool)} (hl : ∀ p ∈ l, p.2 = true) (s : Sp) : ∀ p ∈ mset l s true, p.2 = true := by
  induction l with
  | nil => intro p hp; simp [mset] at hp; rw [hp]
  | cons q l ih =>
    obtain ⟨k, v⟩ := q
    intro p hp
    unfold mset at hp
    split at hp
    · rcases List.mem_cons.1 hp with rfl | hp
      · rfl
      · exact hl p (by simp [hp])
    · rcases List.mem_cons.1 hp with rfl | hp
      · exact hl _ (by simp)
      · exact ih (fun p hp => hl p (by simp [hp])) p hp
def ckT (g : Gr) (side : Int) (c : List Sp) (t : Sp) : Bool := if t.2.2 = side then (mv g t).any (fun m => decide (m ∈ c)) else (mv g t).all (fun m => decide (m ∈ c))
def ckB (g : Gr) (s : Sp) (side : Int) (c : List Sp) : Bool := gvB g && (decide (SN g 16 s) && (decide (0 ≤ side ∧ side ≤ 1) && ((c.all fun t => decide (SN g 16 t)) && (c.all (ckT g side c) && decide (s ∈ c)))))
theorem ckB_iff {g : Gr} {s : Sp} {side : Int} {c : List Sp} : ckB g s side c = true ↔ GV g ∧ SN g 16 s ∧ (side = 0 ∨ side = 1) ∧ CkP g s side c := by
  unfold ckB ckT
  simp only [Bool.and_eq_true, decide_eq_true_eq, List.all_eq_true, gvB_iff]
  constructor
  · rintro ⟨h1, h2, h3, h4, h5, h6⟩
    refine ⟨h1, h2, by omega, h4, h6, fun t ht e => ?_, fun t ht e => ?_⟩
    · have := h5 t ht
      rw [if_pos e, List.any_eq_true] at this
      obtain ⟨m, h7, h8⟩ := this
      exact ⟨m, h7, by simpa using h8⟩
    · have := h5 t ht
      rw [if_neg e, List.all_eq_true] at this
      exact fun m hm => by simpa using this m hm
  · rintro ⟨h1, h2, h3, h4⟩
    refine ⟨h1, h2, by omega, h4.sn, fun t ht => ?_, h4.s⟩
    by_cases e : t.2.2 = side
    · rw [if_pos e, List.any_eq_true]
      obtain ⟨m, h7, h8⟩ := h4.own t ht e
      exact ⟨m, h7, by simpa using h8⟩
    · rw [if_neg e, List.all_eq_true]
      exact fun m hm => by simpa using h4.other t ht e m hm
theorem isIn_in {w0 : World} {h0 h : Hp} {L : List Itm} {K : Value → WP} {tb r : Nat} (l : List (Sp × Bool)) (s : Sp) [hb : Blk L tb [.map (some r)] 82] [ho : Ob L r (mO kSp vBo l)] (hk : Gs w0 h0 h L (K (.bool (lb l s)))) : Gs w0 h0 h L (Do Try.prog (vCall (.func (.func 44) #[] ⟨[ptr tb 0]⟩) [vSp s]) K) := by
  refine in44 ?_
  unfold s44
  (repeat (first | refine G.step ?_ | (refine Gs.box ?_; intro _)))
  refine Gs.lookup (ek := kSp) (ev := vBo) (l := l) s rfl ?_
  rw [lkBo]
  exact Gs.sel hk
theorem isOut_in {w0 : World} {h0 h : Hp} {L : List Itm} {K : Value → WP} {tb r : Nat} (l : List (Sp × Bool)) (s : Sp) [hb : Blk L tb [.map (some r)] 82] [ho : Ob L r (mO kSp vBo l)] (hk : Gs w0 h0 h L (K (.bool (!lb l s)))) : Gs w0 h0 h L (Do Try.prog (vCall (.func (.func 45) #[] ⟨[ptr tb 0]⟩) [vSp s]) K) := by
  refine in45 ?_
  unfold s45
  (repeat (first | refine G.step ?_ | (refine Gs.box ?_; intro _)))
  refine Gs.lookup (ek := kSp) (ev := vBo) (l := l) s rfl ?_
  rw [lkBo]
  (repeat (refine G.step ?_))
  exact Gs.sel hk
theorem contIn_in {w0 : World} {h0 h : Hp} {L : List Itm} {K : Value → WP} {tb r : Nat} (l : List (Sp × Bool)) (q : SlH) (ms : List Sp) (hq : RdE h (slv q) eSp 3 ms) (hn : ms.length ≤ 4611686018427387904) [hb : Blk L tb [.map (some r)] 82] [ho : Ob L r (mO kSp vBo l)] (hk : Gs w0 h0 h L (K (.bool (ms.any (lb l))))) : Gs w0 h0 h L (Do Try.prog (vCall (.func (.func 46) #[] ⟨[]⟩) [slv q, .func (.func 44) #[] ⟨[ptr tb 0]⟩]) K) := by
  refine in46 ?_
  unfold s46
  refine in67 ?_
  unfold s67
  refine sIdx_ok (t := 23) (e := 30) (val := fun s => vSp s) (lb l) hq hn (fun K x _ hk => isIn_in l x hk) ?_
  (repeat (refine G.step ?_))
  rw [idxOf_any]
  exact hk
theorem contOut_in {w0 : World} {h0 h : Hp} {L : List Itm} {K : Value → WP} {tb r : Nat} (l : List (Sp × Bool)) (q : SlH) (ms : List Sp) (hq : RdE h (slv q) eSp 3 ms) (hn : ms.length ≤ 4611686018427387904) [hb : Blk L tb [.map (some r)] 82] [ho : Ob L r (mO kSp vBo l)] (hk : Gs w0 h0 h L (K (.bool (ms.any fun s => !lb l s)))) : Gs w0 h0 h L (Do Try.prog (vCall (.func (.func 46) #[] ⟨[]⟩) [slv q, .func (.func 45) #[] ⟨[ptr tb 0]⟩]) K) := by
  refine in46 ?_
  unfold s46
  refine in67 ?_
  unfold s67
  refine sIdx_ok (t := 23) (e := 30) (val := fun s => vSp s) (fun s => !lb l s) hq hn (fun K x _ hk => isOut_in l x hk) ?_
  (repeat (refine G.step ?_))
  rw [idxOf_any]
  exact hk
theorem check_ok (g : Gr) (x : GrH) (s : Sp) (side : Int) (q : SlH) (c : List Sp) (h : Hp) (hx : GrR h x g) (hs : GS g) (hq : RdE h (slv q) eSp 3 c) (hc : c.length ≤ 4611686018427387904) : Ct Try.prog 18 [vG x, vSp s, I side, .agg #[slv q]] h (fun _ v => v = .bool (ckB g s side c)) := by
  refine ct18 ?_
  intro w0
  unfold s18
  (repeat (refine Gs.box ?_; intro _))
  rename_i xb sb cb
  refine G.jnP (fun j => j = .bool (!(gvB g && (decide (SN g 16 s) && decide (0 ≤ side ∧ side ≤ 1))))) ?_ ?_
  · rintro _ rfl
    refine G.jk ?_; intro _
    refine G.ifb ?_ ?_ <;> intro hb
    · refine Gs.ret ?_
      unfold ckB
      cases h1 : gvB g
      · rfl
      · rw [h1] at hb
        cases h2 : decide (SN g 16 s)
        · rfl
        · rw [h2] at hb
          cases h3 : decide (0 ≤ side ∧ side ≤ 1)
          · rfl
          · rw [h3] at hb; simp at hb
    · have hb : gvB g = true ∧ SN g 16 s ∧ 0 ≤ side ∧ side ≤ 1 := by simpa using hb
      obtain ⟨hgv, hsn, hside⟩ := hb
      have hg := gvB_iff.1 hgv
      have hck : ckB g s side c = ((c.all fun t => decide (SN g 16 t)) && (c.all (ckT g side c) && decide (s ∈ c))) := by
        unfold ckB; rw [hgv, decide_eq_true hsn, decide_eq_true hside]; rfl
      rw [hck]
      clear hck
      refine Gs.makeMap0 ?_
      intro r
      (repeat (first | refine G.step ?_ | (refine Gs.alloc ?_; intro _) | refine Gs.store ?_))
      rename_i tb
      refine Gs.lenE hq (by omega) ?_
      refine Gs.sel (L' := [.blk tb [.map (some r)] 82, .ob r (.map #[] 0), .blk sb [I s.1, I s.2.1, I s.2.2] 30, .blk xb [slv x.1, slv x.2] 27]) ?_
      refine Gs.lp (β := Nat × List (Sp × Bool)) (fun u => I u.1) (fun _ => h) (fun u => [.blk tb [.map (some r)] 82, .ob r (mO kSp vBo u.2), .blk sb [I s.1, I s.2.1, I s.2.2] 30, .blk xb [slv x.1, slv x.2] 27]) (fun u => u.1 ≤ c.length ∧ (∀ t ∈ c.take u.1, SN g 16 t) ∧ (∀ p ∈ u.2, p.2 = true) ∧ ∀ t, lb u.2 t = true ↔ t ∈ c.take u.1) (fun u => c.length - u.1) (0, []) rfl ⟨Nat.zero_le _, by simp, by simp, fun t => by simp [lb, mget]⟩ (fun _ s => s) ?_
      rintro ⟨i, l⟩ ⟨hi, hall, htr, hmem⟩ cont hcont
      dsimp only at hi hall htr hmem hcont ⊢
      (repeat (first | refine G.step ?_ | (refine G.jk ?_; intro _)))
      refine G.ifd ?_ ?_ <;> intro hlt
      · have hlt' : i < c.length := by omega
        have htake := List.take_succ_eq_append_getElem hlt'
        refine Gs.indexE hq hlt' ?_
        intro b1 o1 hp1
        refine Gs.loadE hp1 ?_
        have hcm : c[i] ∈ c := List.getElem_mem hlt'
        generalize c[i] = t at *
        (repeat (first | refine G.step ?_ | (refine Gs.alloc ?_; intro _) | refine Gs.store ?_))
        refine Gs.callv0 (validSpot_ok g x t h hx hs) ?_
        (repeat (refine G.step ?_))
        refine G.ifb ?_ ?_ <;> intro hv
        · refine Gs.ret ?_
          have : (c.all fun t => decide (SN g 16 t)) = false := by
            rw [List.all_eq_false]
            exact ⟨t, hcm, by simpa using hv⟩
          rw [this]; rfl
        · have hv : SN g 16 t := by simpa using hv
          (repeat (refine G.step ?_))
          refine Gs.mapUpdate (ek := kSp) (ev := vBo) t true rfl rfl ?_
          (repeat (refine G.add (by omega) ?_))
          refine Gs.goS (t' := I ((i + 1 : Nat) : Int)) (hcont (i + 1, mset l t true) ⟨by dsimp only; omega, ?_, mset_true htr t, fun t' => ?_⟩ (by dsimp only; omega)) (by simp)
          · dsimp only
            rw [htake]
            intro t' ht'
            rcases List.mem_append.1 ht' with h' | h'
            · exact hall t' h'
            · rw [List.mem_singleton] at h'; subst h'; exact hv
          · dsimp only
            rw [lb_set, htake, Bool.or_eq_true, hmem, decide_eq_true_eq, List.mem_append, List.mem_singleton]
            exact Or.comm
      · have hi' : i = c.length := by omega
        subst hi'
        rw [List.take_length] at *
        clear hcont cont hlt hi
        have h1 : (c.all fun t => decide (SN g 16 t)) = true := by
          rw [List.all_eq_true]
          exact fun t ht => decide_eq_true (hall t ht)
        rw [h1, Bool.true_and]
        have hlbc : ∀ t, lb l t = decide (t ∈ c) := fun t => by
          rw [Bool.eq_iff_iff, hmem, decide_eq_true_eq]
        have hlbf : lb l = fun t => decide (t ∈ c) := funext hlbc
        have hkey : ∀ t, t ∈ c ↔ ∃ p ∈ l, p.1 = t := fun t => by rw [← hmem, lb_mem htr]
        (repeat (refine G.step ?_))
        refine Gs.rangeMap (ek := kSp) (ev := vBo) (l := l) ?_
        intro ib
        refine Gs.sel (L' := [.ob ib (.mapIter (some r) l.length #[] l.length), .blk tb [.map (some r)] 82, .ob r (mO kSp vBo l), .blk sb [I s.1, I s.2.1, I s.2.2] 30, .blk xb [slv x.1, slv x.2] 27]) ?_
        refine Gs.lp (β := Hp × List Nat) (fun u => ()) (fun u => u.1) (fun u => [.ob ib (.mapIter (some r) l.length u.2.toArray l.length), .blk tb [.map (some r)] 82, .ob r (mO kSp vBo l), .blk sb [I s.1, I s.2.1, I s.2.2] 30, .blk xb [slv x.1, slv x.2] 27]) (fun u => Hle h u.1 ∧ u.2.Nodup ∧ (∀ i ∈ u.2, i < l.length) ∧ ∀ i (hi : i < l.length), i ∈ u.2 → ckT g side c l[i].1 = true) (fun u => l.length - u.2.length) (h, []) rfl ⟨Hle.refl h, by simp, by simp, by simp⟩ (fun _ s => s) ?_
        rintro ⟨h1, seen⟩ ⟨hle, hnd, hin, hok⟩ cont hcont
        dsimp only at hle hnd hin hok hcont ⊢
        refine G.jk ?_; intro _
        refine Gs.nextMap (ek := kSp) (ev := vBo) (l := l) ?_ ?_
        · intro hover
          (repeat (first | refine G.step ?_ | refine G.iff ?_))
          refine Gs.lookup (ek := kSp) (ev := vBo) (l := l) s rfl ?_
          rw [lkBo, hlbc]
          refine Gs.ret ?_
          have : c.all (ckT g side c) = true := by
            rw [List.all_eq_true]
            intro t ht
            obtain ⟨p, hp, e⟩ := (hkey t).1 ht
            obtain ⟨i, hi, e2⟩ := List.getElem_of_mem hp
            rw [← e, ← e2]
            exact hok i hi (hover i hi)
          rw [this, Bool.true_and]
        · intro i hi hns
          have hlen : seen.length < l.length := by
            have := nodup_bound l.length (i :: seen) (List.nodup_cons.2 ⟨hns, hnd⟩) (fun j hj => by
              rcases List.mem_cons.1 hj with rfl | hj
              · exact hi
              · exact hin j hj)
            simp at this; omega
          (repeat (first | refine G.step ?_ | refine G.ift ?_))
          refine Gs.entryMap (ek := kSp) (ev := vBo) hi ?_
          have hkc : l[i].1 ∈ c := (hkey _).2 ⟨l[i], List.getElem_mem hi, rfl⟩
          have hnext : ckT g side c l[i].1 = true → Hle h h1 ∧ (seen ++ [i]).Nodup ∧ (∀ j ∈ seen ++ [i], j < l.length) ∧ ∀ j (hj : j < l.length), j ∈ seen ++ [i] → ckT g side c l[j].1 = true := fun hT => ⟨hle, by
            rw [List.nodup_append]
            exact ⟨hnd, by simp, fun a ha b hb e => by rw [List.mem_singleton] at hb; subst hb; subst e; exact hns ha⟩, fun j hj => by
            rcases List.mem_append.1 hj with hj | hj
            · exact hin j hj
            · rw [List.mem_singleton] at hj; subst hj; exact hi, fun j hj hm => by
            rcases List.mem_append.1 hm with hm | hm
            · exact hok j hj hm
            · rw [List.mem_singleton] at hm; subst hm; exact hT⟩
          generalize l[i].1 = t at *
          have hsnt := hall t hkc
          (repeat (first | refine G.step ?_ | (refine Gs.alloc ?_; intro _) | refine Gs.store ?_))
          refine Gs.call0 (moves_ok g x t h1 (hx.mono hle) hg hsnt) ?_
          rintro _ h2 le2 ⟨mq, rfl, hmq⟩
          have hml := mv_len hg (s := t) ⟨hsnt.1, hsnt.2.1⟩
          refine G.jnP (fun j => j = .bool (!ckT g side c t)) ?_ ?_
          · rintro _ rfl
            refine G.jk ?_; intro _
            refine G.ifb ?_ ?_ <;> intro hf
            · refine Gs.ret ?_
              have : c.all (ckT g side c) = false := by
                rw [List.all_eq_false]
                exact ⟨t, hkc, by simpa using hf⟩
              rw [this]; rfl
            · have hT : ckT g side c t = true := by simpa using hf
              refine Gs.goS (hcont (h2, seen ++ [i]) ⟨hle.trans le2, (hnext hT).2⟩ (by simp; omega)) rfl
          · intro K hK
            (repeat (refine G.step ?_))
            refine G.gddt ?_ ?_ <;> intro hw
            · refine contIn_in l mq (mv g t) hmq (by omega) ?_
              have e : ckT g side c t = (mv g t).any (lb l) := by unfold ckT; rw [if_pos hw, hlbf]
              (repeat (refine G.step ?_))
              refine G.gdbf ?_ ?_ <;> intro hb2
              · exact hK _ (by rw [e, hb2])
              · (repeat (refine G.step ?_))
                refine G.gddt ?_ ?_ <;> intro hw2
                · exact absurd hw hw2
                · exact hK _ (by rw [e, hb2])
            · (repeat (refine G.step ?_))
              refine G.gddt ?_ ?_ <;> intro hw2
              · refine contOut_in l mq (mv g t) hmq (by omega) ?_
                refine hK _ ?_
                unfold ckT
                rw [if_neg hw, ← any_not, Bool.not_not, hlbf]
              · exact absurd hw hw2
  · intro K hK
    (repeat (refine G.step ?_))
    refine Gs.callv0 (valid_ok g x h hx hs) ?_
    (repeat (refine G.step ?_))
    refine G.gdbf ?_ ?_ <;> intro h1
    · exact hK _ (by have : gvB g = false := by simpa using h1
                     rw [this]; rfl)
    · have h1 : gvB g = true := by simpa using h1
      rw [h1] at hK
      (repeat (refine G.step ?_))
      refine Gs.callv0 (validSpot_ok g x s h hx hs) ?_
      (repeat (refine G.step ?_))
      refine G.gdbf ?_ ?_ <;> intro h2
      · exact hK _ (by have : decide (SN g 16 s) = false := by simpa using h2
                       rw [this]; rfl)
      · have h2 : decide (SN g 16 s) = true := by simpa using h2
        rw [h2] at hK
        (repeat (refine G.step ?_))
        refine G.gddf ?_ ?_ <;> intro h3
        · exact hK _ (by rw [decide_eq_false (by omega)]; rfl)
        · (repeat (refine G.step ?_))
          refine hK _ ?_
          rw [Bool.true_and, Bool.true_and, ← decide_not]
          congr 1
          rw [decide_eq_decide]
          omega
end Go.Proofs.Ytnepdmnkhjpnhaa
end

section
set_option linter.unusedVariables false
set_option linter.unusedSimpArgs false
set_option linter.unusedSectionVars false
set_option maxHeartbeats 8000000
namespace Go.Proofs.Ytnepdmnkhjpnhaa
open Go Go.Sk Go.Lp Go.RowKit
variable {M : Go.Sk.Mode}
/-! ### The order of spots -/
def cmp3 (a b : Int) : Int := if a < b then -1 else if b < a then 1 else 0
def cmpS (a b : Sp) : Int := if cmp3 a.1 b.1 ≠ 0 then cmp3 a.1 b.1 else if cmp3 a.2.1 b.2.1 ≠ 0 then cmp3 a.2.1 b.2.1 else cmp3 a.2.2 b.2.2
theorem cmpS_lt (a b : Sp) : cmpS a b < 0 ↔ lt a b := by
  unfold cmpS cmp3 lt
  repeat' split
  all_goals omega
theorem cmpS_swo : Sort.SWO (Go.Proofs.ltOf cmpS) := by
  have hl : ∀ a b, Go.Proofs.ltOf cmpS a b = decide (lt a b) := fun a b => by
    unfold Go.Proofs.ltOf
    rw [decide_eq_decide]
    exact cmpS_lt a b
  refine ⟨fun a => ?_, fun a b c h1 h2 => ?_, fun a b c h1 h2 => ?_⟩ <;> simp only [hl, decide_eq_true_eq, decide_eq_false_iff_not] at *
  · exact lt_irrefl a
  · exact lt_trans h1 h2
  · unfold lt at *; omega
theorem isNaN_ok (a : Int) (h : Hp) : Ct Try.prog 97 [I a] h (fun _ v => v = .bool false) := by
  refine ct97 ?_
  intro w0
  unfold s97
  (repeat (refine G.step ?_))
  exact Gs.ret (by simp)
theorem cmpInt_ok (a b : Int) (h : Hp) : Ct Try.prog 83 [I a, I b] h (fun _ v => v = I (cmp3 a b)) := by
  refine ct83 ?_
  intro w0
  unfold s83
  refine Gs.callv0 (isNaN_ok a h) ?_
  refine Gs.callv0 (isNaN_ok b h) ?_
  (repeat (first | refine G.step ?_ | refine G.iff ?_))
  unfold cmp3
  refine G.ifd ?_ ?_ <;> intro h1
  · exact Gs.ret (by rw [if_pos h1])
  · (repeat (refine G.step ?_))
    refine G.ifd ?_ ?_ <;> intro h2
    · exact Gs.ret (by rw [if_neg h1, if_pos h2])
    · exact Gs.ret (by rw [if_neg h1, if_neg h2])
def orL : List Int → Int
  | [] => 0
  | a :: r => if a ≠ 0 then a else orL r
theorem or_ok (l : List Int) (q : SlH) (h : Hp) (hq : RdE h (slv q) eInt 1 l) (hl : l.length ≤ 1000) : Ct Try.prog 82 [slv q] h (fun _ v => v = I (orL l)) := by
  refine ct82 ?_
  intro w0
  unfold s82
  refine Gs.lenE hq (by omega) ?_
  refine Gs.lp (β := Nat) (fun i => I i) (fun _ => h) (fun _ => []) (fun i => i ≤ l.length ∧ orL l = orL (l.drop i)) (fun i => l.length - i) 0 rfl ⟨Nat.zero_le _, by simp⟩ (fun _ s => s) ?_
  rintro i ⟨hi, hd⟩ cont hc
  (repeat (first | refine G.step ?_ | (refine G.jk ?_; intro _)))
  refine G.ifd ?_ ?_ <;> intro hlt
  · have hlt' : i < l.length := by omega
    have hdrop := List.drop_eq_getElem_cons hlt'
    refine Gs.indexE hq hlt' ?_
    intro b o hp
    refine Gs.loadE hp ?_
    (repeat (refine G.step ?_))
    rw [hdrop] at hd
    refine G.ifd ?_ ?_ <;> intro hz
    · exact Gs.ret (by rw [hd]; simp only [orL]; rw [if_pos hz])
    · (repeat (refine G.add (by omega) ?_))
      refine Gs.go (t' := I ((i + 1 : Nat) : Int)) (hc (i + 1) ⟨by omega, ?_⟩ (by omega)) (by simp)
      rw [hd]; simp only [orL]; rw [if_neg hz]
  · have hi' : i = l.length := by omega
    rw [hi', List.drop_length] at hd
    exact Gs.ret (by rw [hd]; rfl)
theorem compare_ok (a b : Sp) (h : Hp) : Ct Try.prog 66 [vSp a, vSp b] h (fun _ v => v = I (cmpS a b)) := by
  refine ct66 ?_
  intro w0
  unfold s66
  (repeat (first | (refine Gs.box ?_; intro _) | refine Gs.dr ?_ | refine G.qkp ?_ | refine Gs.qkb ?_))
  refine Gs.callv0 (cmpInt_ok a.1 b.1 h) ?_
  (repeat (first | refine G.withT ?_ | refine Gs.withb ?_))
  refine Gs.callv0 (cmpInt_ok a.2.1 b.2.1 h) ?_
  (repeat (first | refine G.withT ?_ | refine Gs.withb ?_))
  refine Gs.callv0 (cmpInt_ok a.2.2 b.2.2 h) ?_
  refine Gs.buildSlice (out := [I (cmp3 a.1 b.1), I (cmp3 a.2.1 b.2.1), I (cmp3 a.2.2 b.2.2)]) (by decide) ?_
  intro eb
  refine Gs.freezeE (enc := eInt) (v := .slice (some ⟨eb, 0, none⟩) 3 3) (l := [cmp3 a.1 b.1, cmp3 a.2.1 b.2.1, cmp3 a.2.2 b.2.2]) (by decide) ?_
  intro h' hle hr
  refine Gs.callv0 (or_ok _ (some ⟨eb, 0, none⟩, 3, 3) h' hr (by simp)) ?_
  refine Gs.ret ?_
  unfold cmpS
  simp only [orL]
  congr 1
  repeat' split
  all_goals omega
end Go.Proofs.Ytnepdmnkhjpnhaa
end

section
set_option linter.unusedVariables false
set_option linter.unusedSimpArgs false
set_option linter.unusedSectionVars false
set_option maxHeartbeats 8000000
namespace Go.Proofs.Ytnepdmnkhjpnhaa
open Go Go.Sk Go.Lp Go.RowKit
variable {M : Go.Sk.Mode}
structure VI (g : Gr) (side : Int) (s0 : Sp) (l : List (Sp × Bool)) (spots : List Sp) : Prop where
  tr : ∀ p ∈ l, p.2 = true
  mem : ∀ t, lb l t = true ↔ t ∈ spots
  nodup : spots.Nodup
  rch : ∀ t ∈ spots, Rch g side s0 t
/-- What may be gone to from u is in the list. -/
def Cl (g : Gr) (side : Int) (u : Sp) (l : List Sp) : Prop := ∀ m ∈ mv g u, (u.2.2 ≠ side ∨ Hd g side m) → m ∈ l
structure VP (g : Gr) (side : Int) (t : Sp) (a b : List Sp) : Prop where
  grow : ∃ new, b = a ++ new ∧ ∀ u ∈ new, Cl g side u b
  here : t ∈ b
theorem VI.push {g : Gr} {side : Int} {s0 : Sp} {l : List (Sp × Bool)} {spots : List Sp} (h : VI g side s0 l spots) {t : Sp} (ht : t ∉ spots) (hr : Rch g side s0 t) : VI g side s0 (mset l t true) (spots ++ [t]) :=
  ⟨mset_true h.tr t, fun u => by rw [lb_set, Bool.or_eq_true, h.mem, decide_eq_true_eq, List.mem_append, List.mem_singleton]; exact Or.comm, by
    rw [List.nodup_append]
    exact ⟨h.nodup, by simp, fun a ha b hb e => by rw [List.mem_singleton] at hb; subst hb; subst e; exact ht ha⟩, fun u hu => by
    rcases List.mem_append.1 hu with hu | hu
    · exact h.rch u hu
    · rw [List.mem_singleton] at hu; subst hu; exact hr⟩
abbrev VL (seenb spb r xb sideb kb kr vb : Nat) (x : GrH) (side : Int) (l : List (Sp × Bool)) (sq : SlH) (spots : List Sp) (R : List Itm) : List Itm :=
  .blk seenb [.map (some r)] 82 :: .blk spb [slv sq] 23 :: .ob r (mO kSp vBo l) :: .sl (slv sq) 30 3 (fl eSp spots) :: .blk xb [slv x.1, slv x.2] 27 :: .blk sideb [I side] 3 :: .blk kb [.map (some kr)] 102 :: .blk vb [.func (.func 64) #[] ⟨[ptr seenb 0, ptr spb 0, ptr xb 0, ptr sideb 0, ptr kb 0, ptr vb 0]⟩] 107 :: R
structure GhV where
  hh : Hp
  l : List (Sp × Bool)
  sq : SlH
  spots : List Sp
theorem visit_in {w0 : World} {h0 : Hp} (h : Hp) (g : Gr) (x : GrH) (side : Int) (s0 : Sp) (n kr seenb spb r xb sideb kb vb : Nat) (hg : GV g) (hn : n ≤ 16) (hs0 : SN g n s0) (hx : GrR h x g) (hkn : Kn h kr g n) :
    ∀ (N : Nat) (hh : Hp) (l : List (Sp × Bool)) (sq : SlH) (spots : List Sp) (R : List Itm) (t : Sp) (K : Value → WP), 2112 ≤ spots.length + N → Hle h hh → VI g side s0 l spots → Rch g side s0 t →
      (∀ hh' l' sq' spots', Hle hh hh' → VI g side s0 l' spots' → VP g side t spots spots' → Gs w0 h0 hh' (VL seenb spb r xb sideb kb kr vb x side l' sq' spots' R) (K (.tuple #[]))) →
      Gs w0 h0 hh (VL seenb spb r xb sideb kb kr vb x side l sq spots R) (Do Try.prog (vCall (.func (.func 64) #[] ⟨[ptr seenb 0, ptr spb 0, ptr xb 0, ptr sideb 0, ptr kb 0, ptr vb 0]⟩) [vSp t]) K) := by
  intro N
  induction N with
  | zero =>
    intro hh l sq spots R t K hN hle hvi hr hK
    have hin : t ∈ spots := Decidable.byContradiction fun hnt => by
      have := SN_bound hg hn (l := t :: spots) (List.nodup_cons.2 ⟨hnt, hvi.nodup⟩) (fun u hu => by
        rcases List.mem_cons.1 hu with rfl | hu
        · exact hr.SN hg hs0
        · exact (hvi.rch u hu).SN hg hs0)
      simp at this; omega
    refine in64 ?_
    unfold s64
    (repeat (first | refine G.step ?_ | (refine Gs.box ?_; intro _)))
    refine Gs.lookup (ek := kSp) (ev := vBo) (l := l) t rfl ?_
    rw [lkBo, (hvi.mem t).2 hin]
    (repeat (refine G.ift ?_))
    exact Gs.sel (hK hh l sq spots (Hle.refl hh) hvi ⟨⟨[], by simp, by simp⟩, hin⟩)
  | succ N ih =>
    intro hh l sq spots R t K hN hle hvi hr hK
    refine in64 ?_
    unfold s64
    (repeat (first | refine G.step ?_ | (refine Gs.box ?_; intro _)))
    rename_i tb
    refine Gs.lookup (ek := kSp) (ev := vBo) (l := l) t rfl ?_
    rw [lkBo]
    refine G.ifb ?_ ?_ <;> intro hb
    · exact Gs.sel (hK hh l sq spots (Hle.refl hh) hvi ⟨⟨[], by simp, by simp⟩, (hvi.mem t).1 hb⟩)
    · have hnt : t ∉ spots := fun hm => by rw [(hvi.mem t).2 hm] at hb; cases hb
      have hlen : spots.length ≤ 2112 := SN_bound hg hn hvi.nodup fun u hu => (hvi.rch u hu).SN hg hs0
      have hsn : SN g n t := hr.SN hg hs0
      have hml := mv_len hg (s := t) ⟨hsn.1, hsn.2.1⟩
      (repeat (refine G.step ?_))
      refine Gs.mapUpdate (ek := kSp) (ev := vBo) t true rfl rfl ?_
      (repeat (refine G.step ?_))
      refine Gs.push (enc := eSp) (a := t) (by decide) (by decide) (by omega) (by omega) ?_
      intro s' v'
      refine Gs.slH (v := v') ?_
      rintro q' rfl
      (repeat (first | refine G.step ?_ | refine Gs.store ?_))
      refine Gs.call0 (moves_ok g x t hh (hx.mono hle) hg (hsn.mono hn)) ?_
      rintro _ h1 le1 ⟨mq, rfl, hmq⟩
      have hvi1 := hvi.push hnt hr
      refine Gs.lenE hmq (by omega) ?_
      refine Gs.sel (L' := VL seenb spb r xb sideb kb kr vb x side (mset l t true) q' (spots ++ [t]) (.blk tb [I t.1, I t.2.1, I t.2.2] 30 :: R)) ?_
      refine Gs.lp (β := Nat × GhV) (fun u => I u.1) (fun u => u.2.hh) (fun u => VL seenb spb r xb sideb kb kr vb x side u.2.l u.2.sq u.2.spots (.blk tb [I t.1, I t.2.1, I t.2.2] 30 :: R)) (fun u => u.1 ≤ (mv g t).length ∧ Hle h1 u.2.hh ∧ VI g side s0 u.2.l u.2.spots ∧ (∃ new, u.2.spots = (spots ++ [t]) ++ new ∧ ∀ v ∈ new, Cl g side v u.2.spots) ∧ ∀ m ∈ (mv g t).take u.1, (t.2.2 ≠ side ∨ Hd g side m) → m ∈ u.2.spots) (fun u => (mv g t).length - u.1) (0, ⟨h1, mset l t true, q', spots ++ [t]⟩) rfl ⟨Nat.zero_le _, Hle.refl h1, hvi1, ⟨[], by simp, by simp⟩, by simp⟩ (fun _ s => s) ?_
      rintro ⟨j, u⟩ ⟨hj, hle2, hviu, hgrow, hdone⟩ cont hc
      dsimp only at hj hle2 hviu hgrow hdone hc ⊢
      (repeat (first | refine G.step ?_ | (refine G.jk ?_; intro _)))
      refine G.ifd ?_ ?_ <;> intro hlt
      · have hj' : j < (mv g t).length := by omega
        have htake := List.take_succ_eq_append_getElem hj'
        have hmm : (mv g t)[j] ∈ mv g t := List.getElem_mem hj'
        generalize hm : (mv g t)[j] = m at htake hmm
        have hmsn := mv_SN hg hsn hmm
        refine G.jnk (fun (_ : Unit) S' => ∃ u' : GhV, Hle h1 u'.hh ∧ VI g side s0 u'.l u'.spots ∧ (∃ new, u'.spots = (spots ++ [t]) ++ new ∧ ∀ v ∈ new, Cl g side v u'.spots) ∧ (∀ m ∈ (mv g t).take (j + 1), (t.2.2 ≠ side ∨ Hd g side m) → m ∈ u'.spots) ∧ S' = St w0 h0 u'.hh (VL seenb spb r xb sideb kb kr vb x side u'.l u'.sq u'.spots (.blk tb [I t.1, I t.2.1, I t.2.2] 30 :: R))) ?_ ?_
        · rintro _ _ ⟨u', a1, a2, a3, a4, rfl⟩
          refine G.jk ?_; intro _
          (repeat (refine G.add (by omega) ?_))
          exact Gs.go (t' := I ((j + 1 : Nat) : Int)) (hc (j + 1, u') ⟨by dsimp only; omega, a1, a2, a3, a4⟩ (by dsimp only; omega)) (by simp)
        · intro k19 hk19
          rw [htake] at hk19
          refine Gs.indexE (hmq.mono hle2) hj' ?_
          intro b1 o1 hp1
          refine Gs.loadE hp1 ?_
          rw [hm]
          (repeat (first | (refine Gs.alloc ?_; intro _) | refine Gs.store ?_))
          rename_i mb
          refine G.jnP (fun j => j = .bool (decide (t.2.2 ≠ side ∨ left g m ≠ lost side))) ?_ ?_
          · rintro _ rfl
            refine G.jk ?_; intro _
            refine G.ifd ?_ ?_ <;> intro hal
            · (repeat (refine G.step ?_))
              refine Gs.sel (L' := VL seenb spb r xb sideb kb kr vb x side u.l u.sq u.spots (.blk tb [I t.1, I t.2.1, I t.2.2] 30 :: R)) ?_
              obtain ⟨new, hnew1, hnew2⟩ := hgrow
              refine ih u.hh u.l u.sq u.spots _ m _ (by rw [hnew1]; simp; omega) (hle.trans (le1.trans hle2)) hviu (.step hr hmm hal) ?_
              intro hh' l' sq' spots' hle' hvi' hvp
              obtain ⟨new2, e2, hcl2⟩ := hvp.grow
              have hsub : ∀ z ∈ u.spots, z ∈ spots' := fun z hz => by rw [e2]; exact List.mem_append_left _ hz
              refine hk19 () _ ⟨⟨hh', l', sq', spots'⟩, hle2.trans hle', hvi', ⟨new ++ new2, by dsimp only; rw [e2, hnew1, List.append_assoc], fun v hv => ?_⟩, fun m' hm' ha' => ?_, rfl⟩
              · rcases List.mem_append.1 hv with hv | hv
                · exact fun m2 hm2 ha2 => hsub _ (hnew2 v hv m2 hm2 ha2)
                · exact hcl2 v hv
              · rcases List.mem_append.1 hm' with hm' | hm'
                · exact hsub _ (hdone m' hm' ha')
                · rw [List.mem_singleton] at hm'; subst hm'; exact hvp.here
            · refine Gs.sel (L' := VL seenb spb r xb sideb kb kr vb x side u.l u.sq u.spots (.blk tb [I t.1, I t.2.1, I t.2.2] 30 :: R)) ?_
              refine hk19 () _ ⟨u, hle2, hviu, hgrow, fun m' hm' ha' => ?_, rfl⟩
              rcases List.mem_append.1 hm' with hm' | hm'
              · exact hdone m' hm' ha'
              · rw [List.mem_singleton] at hm'; subst hm'; exact absurd ha' hal
          · intro K2 hK2
            (repeat (refine G.step ?_))
            refine G.gddf ?_ ?_ <;> intro c1
            · exact hK2 _ (by rw [decide_eq_true]; exact .inl c1)
            · (repeat (refine G.step ?_))
              refine Gs.callv0 (holds_ok g n kr m side u.hh (hkn.mono (hle.trans (le1.trans hle2))) hmsn) ?_
              refine hK2 _ ?_
              congr 1
              rw [decide_eq_decide]
              exact ⟨.inr, fun h => h.elim (fun h' => absurd h' c1) id⟩
      · have hj' : j = (mv g t).length := by omega
        rw [hj', List.take_length] at hdone
        obtain ⟨new, hnew1, hnew2⟩ := hgrow
        refine Gs.sel (L' := VL seenb spb r xb sideb kb kr vb x side u.l u.sq u.spots R) ?_
        refine hK u.hh u.l u.sq u.spots (le1.trans hle2) hviu ⟨⟨t :: new, by rw [hnew1]; simp, fun v hv => ?_⟩, by rw [hnew1]; simp⟩
        rcases List.mem_cons.1 hv with rfl | hv
        · exact hdone
        · exact hnew2 v hv
/-- What proving answers: the list and the error. -/
def PvS (g : Gr) (s : Sp) (side : Int) (l : List Sp) (e : Int) : Prop :=
  (gvB g = false ∧ l = [] ∧ e = 210) ∨ (gvB g = true ∧ ¬ (SN g 16 s ∧ 0 ≤ side ∧ side ≤ 1) ∧ l = [] ∧ e = 1) ∨
  (gvB g = true ∧ (SN g 16 s ∧ 0 ≤ side ∧ side ≤ 1) ∧ ¬ Hd g side s ∧ l = [] ∧ e = 211) ∨ (gvB g = true ∧ (SN g 16 s ∧ 0 ≤ side ∧ side ≤ 1) ∧ Hd g side s ∧ PrS g side s l ∧ e = 0)
theorem PvS.uniq {g : Gr} {s : Sp} {side : Int} {l l' : List Sp} {e e' : Int} (h : PvS g s side l e) (h' : PvS g s side l' e') : l = l' ∧ e = e' := by
  rcases h with ⟨a1, a2, a3⟩ | ⟨a1, a2, a3, a4⟩ | ⟨a1, a2, a3, a4, a5⟩ | ⟨a1, a2, a3, a4, a5⟩ <;>
  rcases h' with ⟨b1, b2, b3⟩ | ⟨b1, b2, b3, b4⟩ | ⟨b1, b2, b3, b4, b5⟩ | ⟨b1, b2, b3, b4, b5⟩
  all_goals first
    | (exact ⟨by rw [a2, b2], by rw [a3, b3]⟩)
    | (exact ⟨by rw [a3, b3], by rw [a4, b4]⟩)
    | (exact ⟨by rw [a4, b4], by rw [a5, b5]⟩)
    | (exact ⟨a4.uniq b4, by rw [a5, b5]⟩)
    | (exact absurd b2 a2)
    | (exact absurd a2 b2)
    | (exact absurd b3 a3)
    | (exact absurd a3 b3)
    | (rw [a1] at b1; cases b1)
end Go.Proofs.Ytnepdmnkhjpnhaa
end

section
set_option linter.unusedVariables false
set_option linter.unusedSimpArgs false
set_option linter.unusedSectionVars false
set_option maxHeartbeats 8000000
namespace Go.Proofs.Ytnepdmnkhjpnhaa
open Go Go.Sk Go.Lp Go.RowKit
variable {M : Go.Sk.Mode}
theorem All2.refl_eq {α : Type} : ∀ l : List α, All2 (fun a b => a = b) l l
  | [] => .nil
  | a :: l => .cons rfl (All2.refl_eq l)
theorem All2.to_eq {α : Type} : ∀ {l m : List α}, All2 (fun a b => a = b) l m → l = m
  | _, _, .nil => rfl
  | _, _, .cons h t => by rw [h, All2.to_eq t]
theorem prs_of {g : Gr} {side : Int} {s : Sp} {l : List (Sp × Bool)} {spots m : List Sp} (hv : VI g side s l spots) (hp : VP g side s [] spots) (hm : m.Perm spots) (hs : m.Pairwise fun a b => ¬ cmpS b a < 0) : PrS g side s m := by
  refine ⟨?_, fun t => ?_⟩
  · have hn : m.Nodup := hm.nodup_iff.2 hv.nodup
    refine (hs.and hn).imp fun {a b} h => ?_
    rw [cmpS_lt] at h
    rcases lt_total h.2 with h' | h'
    · exact h'
    · exact absurd h' h.1
  · rw [hm.mem_iff]
    obtain ⟨new, e, hcl⟩ := hp.grow
    rw [List.nil_append] at e
    subst e
    exact ⟨hv.rch t, fun h => h.closed hp.here fun u hu m hm ha => hcl u hu m hm ha⟩
theorem prove_ok (g : Gr) (x : GrH) (s : Sp) (side : Int) (h : Hp) (hx : GrR h x g) (hs : GS g) : Ct Try.prog 38 [vG x, vSp s, I side] h (fun h' v => ∃ (q : SlH) (l : List Sp) (e : Int), PvS g s side l e ∧ RdE h' (slv q) eSp 3 l ∧ v = .tuple #[.agg #[slv q], I e]) := by
  refine ct38 ?_
  intro w0
  unfold s38
  (repeat (first | refine G.step ?_ | (refine Gs.box ?_; intro _) | (refine Gs.alloc ?_; intro _)))
  rename_i xb sb sideb rb
  refine Gs.callv0 (valid_ok g x h hx hs) ?_
  (repeat (refine G.step ?_))
  refine G.ifb ?_ ?_ <;> intro h1
  · (repeat (first | refine G.step ?_ | refine Gs.store ?_ | refine G.retc ?_))
    exact Gs.ret ⟨(none, 0, 0), [], 210, .inl ⟨by simpa using h1, rfl, rfl⟩, RdE.nil _ _ _, rfl⟩
  · have hgv : gvB g = true := by simpa using h1
    have hg := gvB_iff.1 hgv
    refine G.jnP (fun j => j = .bool (!(decide (SN g 16 s) && decide (0 ≤ side ∧ side ≤ 1)))) ?_ ?_
    · rintro _ rfl
      refine G.jk ?_; intro _
      refine G.ifb ?_ ?_ <;> intro hb
      · (repeat (first | refine G.step ?_ | refine Gs.store ?_ | refine G.retc ?_))
        exact Gs.ret ⟨(none, 0, 0), [], 1, .inr (.inl ⟨hgv, (fun h => by rw [decide_eq_true h.1, decide_eq_true h.2] at hb; cases hb), rfl, rfl⟩), RdE.nil _ _ _, rfl⟩
      · have hb : SN g 16 s ∧ 0 ≤ side ∧ side ≤ 1 := by simpa using hb
        have hsn := hb.1
        have hab := hsn.2.2
        (repeat (first | refine G.neg (by omega) ?_ | refine G.step ?_))
        rw [abs_max]
        refine Gs.call0 (results_ok g x s.2.1.natAbs h (abs16 hsn) hx hg) ?_
        rintro _ h1 le1 ⟨kr, rfl, hkr⟩
        (repeat (first | refine G.step ?_ | (refine Gs.alloc ?_; intro _) | refine Gs.store ?_))
        rename_i kb
        refine Gs.callv0 (holds_ok g _ kr s side h1 hkr hsn.self) ?_
        (repeat (refine G.step ?_))
        refine G.ifb ?_ ?_ <;> intro hh
        · (repeat (first | refine G.step ?_ | refine Gs.store ?_ | refine G.retc ?_))
          exact Gs.ret ⟨(none, 0, 0), [], 211, .inr (.inr (.inl ⟨hgv, hb, (fun hd => by unfold Hd at hd; rw [decide_eq_true hd] at hh; cases hh), rfl, rfl⟩)), RdE.nil _ _ _, rfl⟩
        · have hhd : Hd g side s := by unfold Hd; simpa using hh
          refine Gs.makeMap0 ?_
          intro r
          (repeat (first | refine G.step ?_ | (refine Gs.alloc ?_; intro _) | refine Gs.store ?_))
          rename_i seenb spb vb
          refine Gs.nilsl 30 3 ?_
          refine Gs.sel (L' := [.blk seenb [.map (some r)] 82, .blk spb [.slice none 0 0] 23, .ob r (.map #[] 0), .sl (.slice none 0 0) 30 3 [], .blk xb [slv x.1, slv x.2] 27, .blk sideb [I side] 3, .blk kb [.map (some kr)] 102, .blk vb [.func (.func 64) #[] ⟨[ptr seenb 0, ptr spb 0, ptr xb 0, ptr sideb 0, ptr kb 0, ptr vb 0]⟩] 107, .blk rb [.slice none 0 0] 41]) ?_
          refine visit_in h1 g x side s s.2.1.natAbs kr seenb spb r xb sideb kb vb hg (abs16 hsn) hsn.self (hx.mono le1) hkr 2112 h1 [] (none, 0, 0) [] _ s _ (by simp) (Hle.refl h1) ⟨by simp, by simp [lb, mget], by simp, by simp⟩ .here ?_
          intro h2 l sq spots le2 hvi hvp
          have hbd : spots.length ≤ 2112 := SN_bound hg (abs16 hsn) hvi.nodup fun u hu => (hvi.rch u hu).SN hg hsn.self
          (repeat (refine G.step ?_))
          refine Gs.sortK (fun a b => a = b) cmpS cmpS_swo (All2.refl_eq spots) (by omega) (by decide) (fun p cap w => AnyF.slices_SortFunc_none Try.sortSp p cap _ w)
            (fun γ _ en hk h1 cf hO blk off cap d w hcmp hH hblk hsz => AnyQ.slices_SortFunc Try.sortSp 3 (fun w => by kernel_rfl) (fun w => by kernel_rfl) en hk h1 cf hO 66 #[] blk off cap d w (fun args w => by kernel_rfl) hcmp hH hblk hsz)
            (fun x a y b hx hy => by subst hx; subst hy; exact compare_ok x y h2) ?_
          intro l' m' hp hpw hal
          have e := All2.to_eq hal
          subst e
          (repeat (first | refine G.step ?_ | refine Gs.store ?_ | refine G.retc ?_))
          refine Gs.freezeE (enc := eSp) (v := slv sq) (by decide) ?_
          intro h3 le3 hr3
          exact Gs.ret ⟨sq, l', 0, .inr (.inr (.inr ⟨hgv, hb, hhd, prs_of hvi hvp hp hpw, rfl⟩)), hr3, rfl⟩
    · intro K hK
      (repeat (refine G.step ?_))
      refine Gs.callv0 (validSpot_ok g x s h hx hs) ?_
      (repeat (refine G.step ?_))
      refine G.gdbf ?_ ?_ <;> intro h2
      · exact hK _ (by have : decide (SN g 16 s) = false := by simpa using h2
                       rw [this]; rfl)
      · have h2 : decide (SN g 16 s) = true := by simpa using h2
        rw [h2] at hK
        (repeat (refine G.step ?_))
        refine G.gddf ?_ ?_ <;> intro h3
        · exact hK _ (by rw [decide_eq_false (by omega)]; rfl)
        · (repeat (refine G.step ?_))
          refine hK _ ?_
          rw [Bool.true_and, ← decide_not]
          congr 1
          rw [decide_eq_decide]
          omega
end Go.Proofs.Ytnepdmnkhjpnhaa
end

