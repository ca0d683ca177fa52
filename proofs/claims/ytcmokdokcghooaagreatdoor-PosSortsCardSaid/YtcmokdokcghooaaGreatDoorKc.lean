/-
  Lemmas for the proof of the statement of this claim: a part of the road, no statement of its own. Conditions: those that each lemma names.
-/
import Derived.Test.YtcmokdokcghooaaGreatDoorKm
import Derived.Test.YtcmokdokcghooaaGreatDoorKg
import Derived.Test.YtcmokdokcghooaaGreatDoorKt
import Derived.Test.YtcmokdokcghooaaGreatDoorSh
import Derived.Shelf.GgClosure.StringsIndexFuncTop
section
set_option linter.unusedVariables false
set_option maxHeartbeats 4000000
namespace Go.Proofs.YtcmokdokcghooaaGreatDoor
open Go Go.Sk Go.Pr
def rowsL : List Value := [Str [], I 0, Str [103, 111], I 1, Str [115, 108, 105, 100, 101], I 1, Str [101, 109, 112, 116, 121], I 0, Str [101, 110, 101, 109, 121], I 0, Str [102, 114, 105, 101, 110, 100], I 0, Str [116, 97, 107, 101], I 0, Str [112, 117, 115, 104], I 1, Str [98, 101, 99, 111, 109, 101], I 2, Str [110, 101, 101, 100], I 3, Str [108, 111, 115, 101], I 3]
theorem rows_ok (h : Hp) : Ct Tryz.prog 135 [] h (fun _ v => v = .agg rowsL.toArray) := by
  refine ct135 ?_
  intro w0
  unfold s135
  (repeat (first | refine G.step ?_ | (refine Gs.alloc ?_; intro _)))
  rename_i b
  refine ⟨fun w s => Do.of (r := .ok (.value (.agg rowsL.toArray)) w) (by kernel_rfl) ?_⟩
  have : Gs w0 h h [.blk b [Str [], I 0, Str [], I 0, Str [], I 0, Str [], I 0, Str [], I 0, Str [], I 0, Str [], I 0, Str [], I 0, Str [], I 0, Str [], I 0, Str [], I 0] 188] (Do Tryz.prog (U (Instr.storeAt 188 (ptr b 0) (.agg rowsL.toArray))) fun _ => RetC Tryz.prog 188 (ptr b 0) (RetP w0 h fun x v => v = .agg rowsL.toArray)) := by
    unfold rowsL
    (repeat (first | refine Gs.store ?_ | refine G.retc ?_))
    exact Gs.ret rfl
  exact this.run w s

theorem rowsL_at (op : Int) (h : 0 ≤ op ∧ op ≤ 10) : (rowsL.drop (op.toNat * 2)).take 2 = [Str (word op), I (num op)] := by
  have h1 : op = 0 ∨ op = 1 ∨ op = 2 ∨ op = 3 ∨ op = 4 ∨ op = 5 ∨ op = 6 ∨ op = 7 ∨ op = 8 ∨ op = 9 ∨ op = 10 := by omega
  rcases h1 with rfl | rfl | rfl | rfl | rfl | rfl | rfl | rfl | rfl | rfl | rfl <;> rfl
theorem word_out (op : Int) (h : ¬ (1 ≤ op ∧ op ≤ 10)) : word op = [] ∧ num op = 0 := by
  unfold word num
  constructor
  · repeat' (split; omega)
    rfl
  · repeat' (split; omega)
    rfl
theorem find_ok (op : Int) (h : Hp) : Ct Tryz.prog 104 [I op] h (fun _ v => v = .tuple #[.agg #[Str (word op), I (num op)], .bool (okOp op)]) := by
  refine ct104 ?_
  intro w0
  unfold s104
  (repeat (refine Gs.alloc ?_; intro _))
  refine G.jnP (fun a => a = .bool (!okOp op)) ?_ ?_
  · rintro a rfl
    refine G.jk ?_
    intro _
    by_cases ho : 1 ≤ op ∧ op ≤ 10
    · have hb : okOp op = true := decide_eq_true ho
      rw [hb]
      (repeat (refine G.iff ?_))
      refine Gs.callv0 (rows_ok h) ?_
      refine G.indexVN (s := [Str (word op), I (num op)]) (n := 11) ⟨by omega, by omega⟩ (rowsL_at op ⟨by omega, by omega⟩) rfl ?_
      (repeat (first | refine Gs.store ?_ | refine G.retc ?_))
      exact Gs.ret rfl
    · have hb : okOp op = false := decide_eq_false ho
      obtain ⟨h1, h2⟩ := word_out op ho
      rw [hb]
      (repeat (first | refine G.step ?_ | refine Gs.store ?_ | refine G.retc ?_ | refine G.ift ?_))
      exact Gs.ret (by rw [h1, h2])
  · intro K hK
    ((repeat (refine G.step ?_)); repeat (any_goals ((first | (refine G.ifd ?_ ?_ <;> intro _) | (refine G.ifb ?_ ?_ <;> intro _) | (refine G.gddt ?_ ?_ <;> intro _) | (refine G.gddf ?_ ?_ <;> intro _) | (refine G.gdbt ?_ ?_ <;> intro _) | (refine G.gdbf ?_ ?_ <;> intro _)) <;> (try (exfalso; omega; done)) <;> (repeat (refine G.step ?_)))))
    · exact hK _ (by unfold okOp; congr 1; symm; simp; omega)
    · exact hK _ (by unfold okOp; congr 1; rw [← decide_not, decide_eq_decide]; omega)
instance lx0 {S : WP} {b : Nat} : Yd Tryz.prog S (V (Instr.indexAt 151 (ptr b 0) (.int .i64 0))) (ptr b 0) := Yd.ixA (sz := 1) (e := 3) (n := 4) ⟨by decide, by decide⟩ rfl
instance lx1 {S : WP} {b : Nat} : Yd Tryz.prog S (V (Instr.indexAt 151 (ptr b 0) (.int .i64 1))) (ptr b 1) := Yd.ixA (sz := 1) (e := 3) (n := 4) ⟨by decide, by decide⟩ rfl
instance lx2 {S : WP} {b : Nat} : Yd Tryz.prog S (V (Instr.indexAt 151 (ptr b 0) (.int .i64 2))) (ptr b 2) := Yd.ixA (sz := 1) (e := 3) (n := 4) ⟨by decide, by decide⟩ rfl
instance lx3 {S : WP} {b : Nat} : Yd Tryz.prog S (V (Instr.indexAt 151 (ptr b 0) (.int .i64 3))) (ptr b 3) := Yd.ixA (sz := 1) (e := 3) (n := 4) ⟨by decide, by decide⟩ rfl
/-- The closure of Valid: is a step odd? -/
theorem odd_call {w0 : World} {h0 h : Hp} {L : List Itm} {K : Value → WP} {b : Nat} (s : Stp) (d k r : Int) [hb : Blk L b [I 1, I d, I k, I r] 151] (hk : Gs w0 h0 h L (K (.bool (!stepB s d k r)))) : Gs w0 h0 h L (Do Tryz.prog (vCall (.func (.func 103) #[] ⟨[ptr b 0]⟩) [Sv s]) K) := by
  refine G.capsA (all := [Sv s, ptr b 0]) rfl (in103 (arg0 := Sv s) (arg1 := ptr b 0) ?_)
  unfold s103
  (repeat (first | refine G.step ?_ | (refine Gs.box ?_; intro _)))
  refine Gs.callv0 (find_ok s.1 h) ?_
  have hnb := num_bd s.1
  (repeat (first | refine G.step ?_ | (refine Gs.alloc ?_; intro _) | refine Gs.store ?_ | refine Gs.dr ?_ | refine G.qkp ?_))
  by_cases ho : okOp s.1 = true
  · have ho' : 1 ≤ s.1 ∧ s.1 ≤ 10 := of_decide_eq_true ho
    rw [ho]
    (repeat (first | refine G.qkp ?_ | refine Gs.qkb ?_ | refine G.gdff ?_))
    refine G.gddf ?_ ?_ <;> intro h1
    · have e : stepB s d k r = false := decide_eq_false (by omega)
      rw [e] at hk
      exact Gs.sel hk
    · have hidx : ∃ v, ((num s.1 = 0 ∧ v = (1 : Int)) ∨ (num s.1 = 1 ∧ v = d) ∨ (num s.1 = 2 ∧ v = k) ∨ (num s.1 = 3 ∧ v = r)) := by
        have : num s.1 = 0 ∨ num s.1 = 1 ∨ num s.1 = 2 ∨ num s.1 = 3 := by omega
        rcases this with h | h | h | h <;> simp [h]
      obtain ⟨v, hv⟩ := hidx
      have hl : lim d k r (num s.1) = v := by unfold lim; rcases hv with h | h | h | h <;> simp [h.1, h.2]
      have e : stepB s d k r = decide (s.2 < v) := by
        unfold stepB
        rw [hl, decide_eq_decide]
        omega
      rw [e] at hk
      have ee : decide (v ≤ s.2) = !decide (s.2 < v) := by rw [← decide_not, decide_eq_decide]; omega
      rw [← ee] at hk
      clear e ee hl
      rcases hv with ⟨hn, rfl⟩ | ⟨hn, rfl⟩ | ⟨hn, rfl⟩ | ⟨hn, rfl⟩
      all_goals
        rw [hn]
        (repeat (first | refine G.qkp ?_ | refine Gs.qkb ?_))
        exact Gs.sel hk
  · have ho' : ¬ (1 ≤ s.1 ∧ s.1 ≤ 10) := fun hh => ho (decide_eq_true hh)
    have ho2 : okOp s.1 = false := decide_eq_false ho'
    have e : stepB s d k r = false := decide_eq_false (by omega)
    rw [e] at hk
    rw [ho2]
    (repeat (refine G.gdtf ?_))
    exact Gs.sel hk
theorem any_call {w0 : World} {h0 h : Hp} {L : List Itm} {K : Value → WP} {b : Nat} {v : Value} (l : List Stp) (d k r : Int) [hb : Blk L b [I 1, I d, I k, I r] 151] (hr : RdE h v encP 2 l) (hl : l.length ≤ 1000000)
    (hk : Gs w0 h0 h L (K (.bool (!allB l d k r)))) : Gs w0 h0 h L (Do Tryz.prog (vCall (.func (.func 105) #[] ⟨[]⟩) [v, .func (.func 103) #[] ⟨[ptr b 0]⟩]) K) := by
  refine in105 ?_
  unfold s105
  refine in136 ?_
  unfold s136
  refine Gs.lenE hr (by omega) ?_
  have h0 : allB (l.drop 0) d k r = allB l d k r := rfl
  refine Gs.lp (β := Nat) (fun i => I i) (fun _ => h) (fun _ => L) (fun i => i ≤ l.length ∧ allB (l.drop i) d k r = allB l d k r) (fun i => l.length - i) 0 rfl ⟨Nat.zero_le _, h0⟩ (fun _ h => h) ?_
  rintro i ⟨hi, hR⟩ cont hc
  (repeat (first | refine G.step ?_ | (refine G.jk ?_; intro _)))
  refine G.ifd ?_ ?_ <;> intro hlt
  · have hlt' : i < l.length := by omega
    have hd : allB (l.drop i) d k r = (stepB l[i] d k r && allB (l.drop (i + 1)) d k r) := by
      unfold allB
      rw [List.drop_eq_getElem_cons hlt', List.all_cons]
    refine Gs.indexE hr hlt' ?_
    intro b1 o1 hp
    refine Gs.loadPN hp rfl ?_
    refine odd_call l[i] d k r ?_
    cases hs : stepB l[i] d k r
    · (repeat (first | refine G.step ?_ | refine G.ift ?_))
      rw [← hR, hd, hs] at hk
      have e : decide (0 ≤ (i : Int)) = true := decide_eq_true (by omega)
      rw [e]
      exact hk
    · (repeat (first | refine G.add (by omega) ?_ | refine G.iff ?_))
      exact Gs.go (hc (i + 1) ⟨by omega, by rw [← hR, hd, hs]; rfl⟩ (by omega)) rfl
  · (repeat (refine G.step ?_))
    rw [← hR, List.drop_eq_nil_of_le (by omega)] at hk
    exact hk
theorem cnt_take (l : List Stp) (op : Int) (i : Nat) (hi : i < l.length) : cnt (l.take (i + 1)) op = cnt (l.take i) op + if l[i].1 = op then 1 else 0 := by
  rw [List.take_succ_eq_append_getElem hi, cnt_snoc]
theorem count_ok (l : List Stp) (v : Value) (op : Int) (h : Hp) (hr : RdE h v encP 2 l) (hl : l.length ≤ 1000000) : Ct Tryz.prog 106 [v, I op] h (fun _ r => r = I (cnt l op)) := by
  refine ct106 ?_
  intro w0
  unfold s106
  refine Gs.lenE hr (by omega) ?_
  refine Gs.lp (β := Nat) (fun i => (I (cnt (l.take i) op), I i)) (fun _ => h) (fun _ => []) (fun i => i ≤ l.length) (fun i => l.length - i) 0 rfl (Nat.zero_le _) (fun _ h => h) ?_
  rintro i hi cont hc
  have hcl := cnt_le (l.take i) op
  rw [List.length_take] at hcl
  (repeat (first | refine G.step ?_ | (refine G.jk ?_; intro _)))
  refine G.ifd ?_ ?_ <;> intro hlt
  · have hlt' : i < l.length := by omega
    have hcn := cnt_take l op i hlt'
    refine G.jn ?_
    refine Gs.indexE hr hlt' ?_
    intro b1 o1 hp
    refine Gs.loadPN hp rfl ?_
    (repeat (first | refine G.step ?_ | (refine Gs.alloc ?_; intro _) | refine Gs.store ?_))
    refine G.ifd ?_ ?_ <;> intro he
    · (repeat (first | refine G.add (by omega) ?_ | (refine G.jk ?_; intro _)))
      refine Gs.goS (hc (i + 1) (by omega) (by omega)) ?_
      rw [hcn, if_pos he]; rfl
    · (repeat (first | refine G.add (by omega) ?_ | (refine G.jk ?_; intro _)))
      refine Gs.goS (hc (i + 1) (by omega) (by omega)) ?_
      rw [hcn, if_neg he]; rfl
  · refine Gs.ret ?_
    rw [List.take_of_length_le (by omega)]
theorem valid_ok (l : List Stp) (v : Value) (d k r : Int) (h : Hp) (hr : RdE h v encP 2 l) (hl : l.length ≤ 1000000) : Ct Tryz.prog 79 [v, I d, I k, I r] h (fun _ x => x = .bool (validB l d k r)) := by
  refine ct79 ?_
  intro w0
  unfold s79
  (repeat (first | refine G.buildA (by rfl) ?_ | (refine Gs.alloc ?_; intro _) | refine Gs.store ?_))
  refine Gs.lenE hr (by omega) ?_
  (repeat (refine G.step ?_))
  have no : ¬ (0 < l.length ∧ l.length ≤ 8 ∧ allB l d k r = true ∧ cnt l 6 ≤ 2 ∧ cnt l 7 ≤ 1 ∧ cnt l 8 ≤ 1) → validB l d k r = false := fun hh => decide_eq_false hh
  refine G.gddt ?_ ?_ <;> intro h1
  · refine Gs.lenE hr (by omega) ?_
    (repeat (refine G.step ?_))
    refine G.gddt ?_ ?_ <;> intro h2
    · refine any_call l d k r hr hl ?_
      cases ha : allB l d k r
      · (repeat (first | refine G.step ?_ | refine G.gdft ?_))
        exact Gs.ret (by rw [no (by rw [ha]; simp)])
      · (repeat (first | refine G.step ?_ | refine G.gdtt ?_))
        refine Gs.callv0 (count_ok l v 6 h hr hl) ?_
        (repeat (refine G.step ?_))
        refine G.gddt ?_ ?_ <;> intro h3
        · refine Gs.callv0 (count_ok l v 7 h hr hl) ?_
          (repeat (refine G.step ?_))
          refine G.gddt ?_ ?_ <;> intro h4
          · refine Gs.callv0 (count_ok l v 8 h hr hl) ?_
            (repeat (refine G.step ?_))
            refine Gs.ret (congrArg Value.bool ?_)
            unfold validB
            rw [decide_eq_decide, ha]
            exact ⟨fun h5 => ⟨by omega, by omega, rfl, by omega, by omega, by omega⟩, fun ⟨_, _, _, _, _, h5⟩ => by omega⟩
          · exact Gs.ret (by rw [no (by omega)])
        · exact Gs.ret (by rw [no (by omega)])
    · exact Gs.ret (by rw [no (by omega)])
  · exact Gs.ret (by rw [no (by omega)])

end Go.Proofs.YtcmokdokcghooaaGreatDoor
end

section
set_option linter.unusedVariables false
set_option maxHeartbeats 4000000
namespace Go.Proofs.YtcmokdokcghooaaGreatDoor
open Go Go.Sk Go.Pr Go.RowKit
/-- Bytes as elements, by their numbers. -/
abbrev eU : Int → List Value := fun n => [.int .u8 n]
instance : Enc eU 1 := ⟨fun _ => rfl, fun a v h => by simp only [eU, List.mem_singleton] at h; subst h; rfl⟩
/-- Slices as elements. -/
abbrev eSl : Option Addr × Nat × Nat → List Value := fun x => [.slice x.1 x.2.1 x.2.2]
instance : Enc eSl 1 := ⟨fun _ => rfl, fun a v h => by simp only [eSl, List.mem_singleton] at h; subst h; rfl⟩
def atU (l : List Int) (i : Nat) : Int := l.getD i 0
def libT (d e k r : Int) : List (List Stp) := [[(1, d), (3, 0)], [(1, d), (4, 0), (6, 0)], [(2, d)], [(2, d), (4, 0), (6, 0)], [(1, d), (4, 0), (6, 0), (1, d)], [(1, d), (1, e)], [(1, d), (7, d)], [(1, d), (3, 0), (8, k)], [(9, r), (1, d), (1, d), (10, r)], [(1, d), (5, 0), (1, d), (3, 0)], [(10, r), (1, d)], [(1, d), (4, 0), (6, 0), (1, (d + 4) % 8)], [(1, d), (4, 0), (6, 0), (1, e), (4, 0), (6, 0)], [(2, d), (5, 0), (1, d)], [(1, d), (4, 0), (6, 0), (8, k)], [(1, d), (7, d), (1, e)]]
def lib (l : List Int) : List Stp := (libT (atU l 1 % 8) (atU l 2 % 8) (atU l 3 % 6) (atU l 4 % 4)).getD (atU l 0 % 16).toNat []
theorem at_ok (l : List Int) (v : Value) (i : Nat) (h : Hp) (hr : RdE h v eU 1 l) (hb : ∀ n ∈ l, 0 ≤ n ∧ n ≤ 255) (hl : l.length ≤ 9223372036854775807) : Ct Tryz.prog 97 [v, I i] h (fun _ x => x = I (atU l i)) := by
  refine ct97 ?_
  intro w0
  unfold s97
  refine Gs.lenE hr (by omega) ?_
  (repeat (refine G.step ?_))
  refine G.ifd ?_ ?_ <;> intro hlt
  · have hlt' : i < l.length := by omega
    have h1 := hb _ (List.getElem_mem hlt')
    refine Gs.indexE hr hlt' ?_
    intro b o hp
    refine Gs.loadP1 hp ?_
    refine G.conv (by omega) ?_
    exact Gs.ret (by unfold atU; simp [hlt'])
  · exact Gs.ret (by unfold atU; rw [List.getD_eq_getElem?_getD, List.getElem?_eq_none (by omega)]; rfl)
theorem atU_bd (l : List Int) (hb : ∀ n ∈ l, 0 ≤ n ∧ n ≤ 255) (i : Nat) : 0 ≤ atU l i ∧ atU l i ≤ 255 := by
  unfold atU
  rw [List.getD_eq_getElem?_getD]
  cases h : l[i]? with
  | none => exact ⟨by decide, by decide⟩
  | some x => exact hb x (List.mem_of_getElem? h)
/-- A slice without room behind its length. -/
def Tight (h : Hp) (v : Value) (l : List Stp) : Prop := ∃ a, v = .slice a l.length l.length ∧ RdE h v encP 2 l
theorem Lib_ok (l : List Int) (v : Value) (h : Hp) (hr : RdE h v eU 1 l) (hb : ∀ n ∈ l, 0 ≤ n ∧ n ≤ 255) (hl : l.length ≤ 9223372036854775807) : Ct Tryz.prog 74 [v] h (fun h' x => Tight h' x (lib l)) := by
  refine ct74 ?_
  intro w0
  unfold s74
  have b0 := atU_bd l hb 0
  have b1 := atU_bd l hb 1
  have b2 := atU_bd l hb 2
  have b3 := atU_bd l hb 3
  have b4 := atU_bd l hb 4
  refine Gs.callv0 (at_ok l v 1 h hr hb hl) ?_
  refine G.rem (by decide) ?_
  refine Gs.callv0 (at_ok l v 2 h hr hb hl) ?_
  refine G.rem (by decide) ?_
  refine Gs.callv0 (at_ok l v 3 h hr hb hl) ?_
  refine G.rem (by decide) ?_
  refine Gs.callv0 (at_ok l v 4 h hr hb hl) ?_
  refine G.rem (by decide) ?_
  rw [Int.tmod_eq_emod_of_nonneg b1.1, Int.tmod_eq_emod_of_nonneg b2.1, Int.tmod_eq_emod_of_nonneg b3.1, Int.tmod_eq_emod_of_nonneg b4.1]
  unfold lib
  have c1 : 0 ≤ atU l 1 % 8 ∧ atU l 1 % 8 < 8 := by omega
  generalize atU l 1 % 8 = d at *
  generalize atU l 2 % 8 = e at *
  generalize atU l 3 % 6 = k at *
  generalize atU l 4 % 4 = r at *
  (repeat (first | refine G.add (by omega) ?_ | refine G.rem (by omega) ?_ | refine G.step ?_ | (refine Gs.alloc ?_; intro _) | refine Gs.store ?_))
  rw [Int.tmod_eq_emod_of_nonneg (show 0 ≤ d + 4 by omega)]
  skip
  refine Gs.buildSlice (by decide) ?_
  intro q0
  (repeat (refine G.step ?_))
  refine Gs.buildSlice (by decide) ?_
  intro q1
  (repeat (refine G.step ?_))
  refine Gs.buildSlice (by decide) ?_
  intro q2
  (repeat (refine G.step ?_))
  refine Gs.buildSlice (by decide) ?_
  intro q3
  (repeat (refine G.step ?_))
  refine Gs.buildSlice (by decide) ?_
  intro q4
  (repeat (refine G.step ?_))
  refine Gs.buildSlice (by decide) ?_
  intro q5
  (repeat (refine G.step ?_))
  refine Gs.buildSlice (by decide) ?_
  intro q6
  (repeat (refine G.step ?_))
  refine Gs.buildSlice (by decide) ?_
  intro q7
  (repeat (refine G.step ?_))
  refine Gs.buildSlice (by decide) ?_
  intro q8
  (repeat (refine G.step ?_))
  refine Gs.buildSlice (by decide) ?_
  intro q9
  (repeat (refine G.step ?_))
  refine Gs.buildSlice (by decide) ?_
  intro q10
  (repeat (refine G.step ?_))
  refine Gs.buildSlice (by decide) ?_
  intro q11
  (repeat (refine G.step ?_))
  refine Gs.buildSlice (by decide) ?_
  intro q12
  (repeat (refine G.step ?_))
  refine Gs.buildSlice (by decide) ?_
  intro q13
  (repeat (refine G.step ?_))
  refine Gs.buildSlice (by decide) ?_
  intro q14
  (repeat (refine G.step ?_))
  refine Gs.buildSlice (by decide) ?_
  intro q15
  skip
  refine Gs.buildSlice (by decide) ?_
  intro q16
  clear b1 b2 b3 b4 c1
  refine Gs.freezeE (v := .slice (some ⟨q0, 0, none⟩) 2 2) (enc := encP) (l := [(1, d), (3, 0)]) (by decide) ?_
  intro h0 le0 r0
  refine Gs.freezeE (v := .slice (some ⟨q1, 0, none⟩) 3 3) (enc := encP) (l := [(1, d), (4, 0), (6, 0)]) (by decide) ?_
  intro h1 le1 r1
  refine Gs.freezeE (v := .slice (some ⟨q2, 0, none⟩) 1 1) (enc := encP) (l := [(2, d)]) (by decide) ?_
  intro h2 le2 r2
  refine Gs.freezeE (v := .slice (some ⟨q3, 0, none⟩) 3 3) (enc := encP) (l := [(2, d), (4, 0), (6, 0)]) (by decide) ?_
  intro h3 le3 r3
  refine Gs.freezeE (v := .slice (some ⟨q4, 0, none⟩) 4 4) (enc := encP) (l := [(1, d), (4, 0), (6, 0), (1, d)]) (by decide) ?_
  intro h4 le4 r4
  refine Gs.freezeE (v := .slice (some ⟨q5, 0, none⟩) 2 2) (enc := encP) (l := [(1, d), (1, e)]) (by decide) ?_
  intro h5 le5 r5
  refine Gs.freezeE (v := .slice (some ⟨q6, 0, none⟩) 2 2) (enc := encP) (l := [(1, d), (7, d)]) (by decide) ?_
  intro h6 le6 r6
  refine Gs.freezeE (v := .slice (some ⟨q7, 0, none⟩) 3 3) (enc := encP) (l := [(1, d), (3, 0), (8, k)]) (by decide) ?_
  intro h7 le7 r7
  refine Gs.freezeE (v := .slice (some ⟨q8, 0, none⟩) 4 4) (enc := encP) (l := [(9, r), (1, d), (1, d), (10, r)]) (by decide) ?_
  intro h8 le8 r8
  refine Gs.freezeE (v := .slice (some ⟨q9, 0, none⟩) 4 4) (enc := encP) (l := [(1, d), (5, 0), (1, d), (3, 0)]) (by decide) ?_
  intro h9 le9 r9
  refine Gs.freezeE (v := .slice (some ⟨q10, 0, none⟩) 2 2) (enc := encP) (l := [(10, r), (1, d)]) (by decide) ?_
  intro h10 le10 r10
  refine Gs.freezeE (v := .slice (some ⟨q11, 0, none⟩) 4 4) (enc := encP) (l := [(1, d), (4, 0), (6, 0), (1, (d + 4) % 8)]) (by decide) ?_
  intro h11 le11 r11
  refine Gs.freezeE (v := .slice (some ⟨q12, 0, none⟩) 6 6) (enc := encP) (l := [(1, d), (4, 0), (6, 0), (1, e), (4, 0), (6, 0)]) (by decide) ?_
  intro h12 le12 r12
  refine Gs.freezeE (v := .slice (some ⟨q13, 0, none⟩) 3 3) (enc := encP) (l := [(2, d), (5, 0), (1, d)]) (by decide) ?_
  intro h13 le13 r13
  refine Gs.freezeE (v := .slice (some ⟨q14, 0, none⟩) 4 4) (enc := encP) (l := [(1, d), (4, 0), (6, 0), (8, k)]) (by decide) ?_
  intro h14 le14 r14
  refine Gs.freezeE (v := .slice (some ⟨q15, 0, none⟩) 3 3) (enc := encP) (l := [(1, d), (7, d), (1, e)]) (by decide) ?_
  intro h15 le15 r15
  refine Gs.freezeE (v := .slice (some ⟨q16, 0, none⟩) 16 16) (enc := eSl) (l := [(some ⟨q0, 0, none⟩, 2, 2), (some ⟨q1, 0, none⟩, 3, 3), (some ⟨q2, 0, none⟩, 1, 1), (some ⟨q3, 0, none⟩, 3, 3), (some ⟨q4, 0, none⟩, 4, 4), (some ⟨q5, 0, none⟩, 2, 2), (some ⟨q6, 0, none⟩, 2, 2), (some ⟨q7, 0, none⟩, 3, 3), (some ⟨q8, 0, none⟩, 4, 4), (some ⟨q9, 0, none⟩, 4, 4), (some ⟨q10, 0, none⟩, 2, 2), (some ⟨q11, 0, none⟩, 4, 4), (some ⟨q12, 0, none⟩, 6, 6), (some ⟨q13, 0, none⟩, 3, 3), (some ⟨q14, 0, none⟩, 4, 4), (some ⟨q15, 0, none⟩, 3, 3)]) (by decide) ?_
  intro h16 le16 r16
  have t0 : Tight h16 (.slice (some ⟨q0, 0, none⟩) 2 2) [(1, d), (3, 0)] := ⟨_, rfl, ((((((((((((((((r0.mono le1).mono le2).mono le3).mono le4).mono le5).mono le6).mono le7).mono le8).mono le9).mono le10).mono le11).mono le12).mono le13).mono le14).mono le15).mono le16)⟩
  have t1 : Tight h16 (.slice (some ⟨q1, 0, none⟩) 3 3) [(1, d), (4, 0), (6, 0)] := ⟨_, rfl, (((((((((((((((r1.mono le2).mono le3).mono le4).mono le5).mono le6).mono le7).mono le8).mono le9).mono le10).mono le11).mono le12).mono le13).mono le14).mono le15).mono le16)⟩
  have t2 : Tight h16 (.slice (some ⟨q2, 0, none⟩) 1 1) [(2, d)] := ⟨_, rfl, ((((((((((((((r2.mono le3).mono le4).mono le5).mono le6).mono le7).mono le8).mono le9).mono le10).mono le11).mono le12).mono le13).mono le14).mono le15).mono le16)⟩
  have t3 : Tight h16 (.slice (some ⟨q3, 0, none⟩) 3 3) [(2, d), (4, 0), (6, 0)] := ⟨_, rfl, (((((((((((((r3.mono le4).mono le5).mono le6).mono le7).mono le8).mono le9).mono le10).mono le11).mono le12).mono le13).mono le14).mono le15).mono le16)⟩
  have t4 : Tight h16 (.slice (some ⟨q4, 0, none⟩) 4 4) [(1, d), (4, 0), (6, 0), (1, d)] := ⟨_, rfl, ((((((((((((r4.mono le5).mono le6).mono le7).mono le8).mono le9).mono le10).mono le11).mono le12).mono le13).mono le14).mono le15).mono le16)⟩
  have t5 : Tight h16 (.slice (some ⟨q5, 0, none⟩) 2 2) [(1, d), (1, e)] := ⟨_, rfl, (((((((((((r5.mono le6).mono le7).mono le8).mono le9).mono le10).mono le11).mono le12).mono le13).mono le14).mono le15).mono le16)⟩
  have t6 : Tight h16 (.slice (some ⟨q6, 0, none⟩) 2 2) [(1, d), (7, d)] := ⟨_, rfl, ((((((((((r6.mono le7).mono le8).mono le9).mono le10).mono le11).mono le12).mono le13).mono le14).mono le15).mono le16)⟩
  have t7 : Tight h16 (.slice (some ⟨q7, 0, none⟩) 3 3) [(1, d), (3, 0), (8, k)] := ⟨_, rfl, (((((((((r7.mono le8).mono le9).mono le10).mono le11).mono le12).mono le13).mono le14).mono le15).mono le16)⟩
  have t8 : Tight h16 (.slice (some ⟨q8, 0, none⟩) 4 4) [(9, r), (1, d), (1, d), (10, r)] := ⟨_, rfl, ((((((((r8.mono le9).mono le10).mono le11).mono le12).mono le13).mono le14).mono le15).mono le16)⟩
  have t9 : Tight h16 (.slice (some ⟨q9, 0, none⟩) 4 4) [(1, d), (5, 0), (1, d), (3, 0)] := ⟨_, rfl, (((((((r9.mono le10).mono le11).mono le12).mono le13).mono le14).mono le15).mono le16)⟩
  have t10 : Tight h16 (.slice (some ⟨q10, 0, none⟩) 2 2) [(10, r), (1, d)] := ⟨_, rfl, ((((((r10.mono le11).mono le12).mono le13).mono le14).mono le15).mono le16)⟩
  have t11 : Tight h16 (.slice (some ⟨q11, 0, none⟩) 4 4) [(1, d), (4, 0), (6, 0), (1, (d + 4) % 8)] := ⟨_, rfl, (((((r11.mono le12).mono le13).mono le14).mono le15).mono le16)⟩
  have t12 : Tight h16 (.slice (some ⟨q12, 0, none⟩) 6 6) [(1, d), (4, 0), (6, 0), (1, e), (4, 0), (6, 0)] := ⟨_, rfl, ((((r12.mono le13).mono le14).mono le15).mono le16)⟩
  have t13 : Tight h16 (.slice (some ⟨q13, 0, none⟩) 3 3) [(2, d), (5, 0), (1, d)] := ⟨_, rfl, (((r13.mono le14).mono le15).mono le16)⟩
  have t14 : Tight h16 (.slice (some ⟨q14, 0, none⟩) 4 4) [(1, d), (4, 0), (6, 0), (8, k)] := ⟨_, rfl, ((r14.mono le15).mono le16)⟩
  have t15 : Tight h16 (.slice (some ⟨q15, 0, none⟩) 3 3) [(1, d), (7, d), (1, e)] := ⟨_, rfl, (r15.mono le16)⟩
  have hle : Hle h h16 := ((((((((((((((((le0.trans le1).trans le2).trans le3).trans le4).trans le5).trans le6).trans le7).trans le8).trans le9).trans le10).trans le11).trans le12).trans le13).trans le14).trans le15).trans le16)
  clear r0 le0 r1 le1 r2 le2 r3 le3 r4 le4 r5 le5 r6 le6 r7 le7 r8 le8 r9 le9 r10 le10 r11 le11 r12 le12 r13 le13 r14 le14 r15 le15
  refine Gs.callv0 (at_ok l v 0 h16 (hr.mono hle) hb hl) ?_
  refine Gs.lenE r16 (by simp) ?_
  refine G.rem (by simp) ?_
  rw [Int.tmod_eq_emod_of_nonneg b0.1]
  have hm : 0 ≤ atU l 0 % 16 ∧ atU l 0 % 16 < 16 := by omega
  have hmm : atU l 0 % (([(some ⟨q0, 0, none⟩, 2, 2), (some ⟨q1, 0, none⟩, 3, 3), (some ⟨q2, 0, none⟩, 1, 1), (some ⟨q3, 0, none⟩, 3, 3), (some ⟨q4, 0, none⟩, 4, 4), (some ⟨q5, 0, none⟩, 2, 2), (some ⟨q6, 0, none⟩, 2, 2), (some ⟨q7, 0, none⟩, 3, 3), (some ⟨q8, 0, none⟩, 4, 4), (some ⟨q9, 0, none⟩, 4, 4), (some ⟨q10, 0, none⟩, 2, 2), (some ⟨q11, 0, none⟩, 4, 4), (some ⟨q12, 0, none⟩, 6, 6), (some ⟨q13, 0, none⟩, 3, 3), (some ⟨q14, 0, none⟩, 4, 4), (some ⟨q15, 0, none⟩, 3, 3)] : List (Option Addr × Nat × Nat)).length : Int) = atU l 0 % 16 := rfl
  rw [hmm]
  obtain ⟨i, hi⟩ := Int.eq_ofNat_of_zero_le hm.1
  rw [hi]
  have hi16 : i < 16 := by omega
  refine Gs.indexE r16 hi16 ?_
  intro bb oo hp
  refine Gs.loadP1 hp ?_
  refine Gs.ret ?_
  clear hp r16 hi hm hmm
  rw [Int.toNat_natCast]
  have hc : i = 0 ∨ i = 1 ∨ i = 2 ∨ i = 3 ∨ i = 4 ∨ i = 5 ∨ i = 6 ∨ i = 7 ∨ i = 8 ∨ i = 9 ∨ i = 10 ∨ i = 11 ∨ i = 12 ∨ i = 13 ∨ i = 14 ∨ i = 15 := by omega
  rcases hc with rfl | rfl | rfl | rfl | rfl | rfl | rfl | rfl | rfl | rfl | rfl | rfl | rfl | rfl | rfl | rfl
  · exact t0
  · exact t1
  · exact t2
  · exact t3
  · exact t4
  · exact t5
  · exact t6
  · exact t7
  · exact t8
  · exact t9
  · exact t10
  · exact t11
  · exact t12
  · exact t13
  · exact t14
  · exact t15
end Go.Proofs.YtcmokdokcghooaaGreatDoor
end

section
set_option linter.unusedVariables false
set_option maxHeartbeats 4000000
namespace Go.Proofs.YtcmokdokcghooaaGreatDoor
open Go Go.Sk Go.Pr Go.Ps Go.RowKit
variable {M : Go.Sk.Mode} {w0 : World} {h0 h : Hp} {L : List Itm} {K : Value → WP}
theorem in_call (n lo hi : Int) (hk : Gs w0 h0 h L (K (.bool (decide (lo ≤ n ∧ n ≤ hi))))) : Gs w0 h0 h L (Do Tryz.prog (vCall (.func (.func 101) #[] ⟨[]⟩) [I n, I lo, I hi]) K) := by
  refine in101 ?_
  unfold s101
  ((repeat (refine G.step ?_)); repeat (any_goals ((first | (refine G.ifd ?_ ?_ <;> intro _) | (refine G.ifb ?_ ?_ <;> intro _) | (refine G.gddt ?_ ?_ <;> intro _) | (refine G.gddf ?_ ?_ <;> intro _) | (refine G.gdbt ?_ ?_ <;> intro _) | (refine G.gdbf ?_ ?_ <;> intro _)) <;> (try (exfalso; omega; done)) <;> (repeat (refine G.step ?_)))))
  · have e : decide (lo ≤ n ∧ n ≤ hi) = decide (n ≤ hi) := by rw [decide_eq_decide]; omega
    rw [e] at hk; exact hk
  · have e : decide (lo ≤ n ∧ n ≤ hi) = false := by rw [decide_eq_false_iff_not]; omega
    rw [e] at hk; exact hk
theorem containsInt (p : Int → Bool) (l : List Int) {v f : Value} (hr : RdE h v eInt 1 l) (hn : l.length ≤ 4611686018427387904)
    (hf : ∀ (K : Value → WP) x, x ∈ l → Gs w0 h0 h L (K (.bool (p x))) → Gs w0 h0 h L (Do Tryz.prog (vCall f [I x]) K))
    (hk : Gs w0 h0 h L (K (.bool (l.any p)))) : Gs w0 h0 h L (Do Tryz.prog (vCall (.func (.func 49) #[] ⟨[]⟩) [v, f]) K) := by
  refine in49 ?_
  unfold s49
  refine in88 ?_
  refine sIdx_ok (t := 33) (e := 3) p hr hn hf ?_
  refine G.step ?_
  rw [idxOf_any]
  exact hk
theorem boardValid_ok (n : Nat) (next : List (List Int)) (turn : List Int) (a t : SlH) (h : Hp) (hg : GoodB n next turn) (hn : RdF h (slv a) eSlH 1 intsR next) (ht : RdE h (slv t) eInt 1 turn) :
    Ct Tryz.prog 76 [.agg #[I n, slv a, slv t]] h (fun _ v => v = .bool true) := by
  refine ct76 ?_
  intro w0
  unfold s76
  obtain ⟨c1, c9, d1, d8, tl, rl, rc, t0, tt⟩ := hg
  (repeat (first | refine G.step ?_ | (refine Gs.box ?_; intro _)))
  rename_i bb
  refine Gs.lenF hn (by omega) ?_
  (repeat (first | (refine Gs.alloc ?_; intro _) | refine Gs.store ?_))
  rename_i bf
  refine G.jnP (fun j => j = .bool false) ?_ ?_
  · rintro a rfl
    refine G.jk ?_; intro _
    (repeat (first | refine G.step ?_ | refine G.iff ?_))
    refine Gs.lenF hn (by omega) ?_
    refine Gs.lp (β := Nat) (fun i => I i) (fun _ => h) (fun _ => [.blk bf [.func (.func 101) #[] ⟨[]⟩] 150, .blk bb [I n, slv a, slv t] 35]) (fun i => i ≤ next.length) (fun i => next.length - i) 0 rfl (Nat.zero_le _) (fun _ h => h) ?_
    intro i hi cont hc
    (repeat (first | refine G.step ?_ | (refine G.jk ?_; intro _)))
    refine G.ifd ?_ ?_ <;> intro hlt
    · have hlt' : i < next.length := by omega
      have hlt2 : i < turn.length := by omega
      refine Gs.indexF hn hlt' ?_
      intro b o x hp hx
      refine Gs.loadE hp ?_
      have hxl : next[i].length = n := rl _ (List.getElem_mem hlt')
      refine G.jnP (fun j => j = .bool false) ?_ ?_
      · rintro a rfl
        refine G.jk ?_; intro _
        (repeat (refine G.iff ?_))
        refine G.jnP (fun j => j = .bool false) ?_ ?_
        · rintro a rfl
          refine G.jk ?_; intro _
          (repeat (first | refine G.add (by omega) ?_ | refine G.iff ?_))
          exact Gs.go (hc (i + 1) (by omega) (by omega)) rfl
        · intro K hK
          obtain ⟨g1, g2⟩ := t0 i hlt2
          have g3 := tt i hlt2
          (repeat (first | refine Gs.dr ?_ | refine G.qkp ?_ | refine Gs.qkb ?_))
          refine Gs.qindexE ht hlt2 ?_
          intro b2 o2 hp2
          refine Gs.qloadE hp2 ?_
          (repeat (refine G.qsub (by omega) ?_))
          refine in_call _ _ _ ?_
          rw [decide_eq_true (by omega)]
          (repeat (first | refine G.qkp ?_ | refine Gs.qkb ?_ | refine G.gdff ?_))
          refine Gs.qindexE ht hlt2 ?_
          intro b3 o3 hp3
          refine Gs.qloadE hp3 ?_
          have e4 : turn[i] = (turn[i].toNat : Int) := by omega
          rw [e4]
          have hlt4 : turn[i].toNat < turn.length := by omega
          refine Gs.qindexE ht hlt4 ?_
          intro b4 o4 hp4
          refine Gs.qloadE hp4 ?_
          have e5 : turn[turn[i].toNat] = i := by rw [← g3, List.getD_eq_getElem?_getD, List.getElem?_eq_getElem hlt4]; rfl
          rw [e5]
          (repeat (refine G.qkp ?_))
          exact hK _ (by simp)
      · intro K hK
        refine Gs.lenE hx (by omega) ?_
        rw [hxl]
        (repeat (first | refine G.step ?_ | refine G.gdbn (by first | (simp; done) | omega) ?_))
        refine containsInt (fun c => !decide (-1 ≤ c ∧ c ≤ (n : Int) - 1)) next[i] hx (by omega) ?_ ?_
        · intro K x hx hk
          refine G.capsA (all := [I x, ptr bf 0, ptr bb 0]) rfl (in102 (arg0 := I x) (arg1 := ptr bf 0) (arg2 := ptr bb 0) ?_)
          unfold s102
          (repeat (first | refine G.sub (by omega) ?_ | refine G.step ?_))
          refine in_call _ _ _ ?_
          (repeat (refine G.step ?_))
          exact hk
        · rw [List.any_eq_false.2 (fun c hc => by have := rc _ (List.getElem_mem hlt') c hc; simp; omega)]
          exact hK _ rfl
    · exact Gs.ret rfl
  · intro K hK
    (repeat (refine G.step ?_))
    refine in_call _ _ _ ?_
    rw [decide_eq_true (by omega)]
    (repeat (first | refine G.step ?_ | refine G.gdff ?_))
    refine in_call _ _ _ ?_
    rw [decide_eq_true (by omega)]
    (repeat (first | refine G.step ?_ | refine G.gdff ?_))
    refine Gs.lenE ht (by omega) ?_
    rw [tl]
    (repeat (refine G.step ?_))
    exact hK _ (by simp)
end Go.Proofs.YtcmokdokcghooaaGreatDoor
end

section
set_option linter.unusedVariables false
set_option maxHeartbeats 4000000
namespace Go.Proofs.YtcmokdokcghooaaGreatDoor
open Go Go.Sk Go.Pr Go.Ps Go.RowKit
variable {w0 : World} {h0 h : Hp} {L : List Itm} {K : Value → WP}
theorem isRes_call (n : Int) (hn : isRes n) (hk : Gs w0 h0 h L (K (.bool true))) : Gs w0 h0 h L (Do Tryz.prog (vCall (.func (.func 77) #[] ⟨[]⟩) [I n]) K) := by
  obtain ⟨h1, h2⟩ := hn
  refine in77 ?_
  unfold s77
  (repeat (first | refine G.step ?_ | refine G.gdy (by first | (simp; done) | omega) ?_))
  rw [decide_eq_true (by omega)]
  exact hk
instance ldKd : LdE Tryz.prog 59 eKd (fun x => .agg (eKd x).toArray) := LdE.agg
instance ldCl : LdE Tryz.prog 89 eCl (fun x => .agg (eCl x).toArray) := LdE.agg
/-- A name of at most eight small letters is right. -/
def oddB (n : Nat) : Bool := decide (n < 97) || decide (122 < n)
theorem odd_gives (n : Nat) (W : World) : FnGives Tryz.prog 108 #[] #[.int .i32 n] (.bool (oddB n)) W := by
  have hg : G (fun w' => w' = W) (s108 Tryz.prog (.int .i32 n) fun v w' => v = .bool (oddB n) ∧ w' = W) := by
    unfold s108
    ((repeat (refine G.step ?_)); repeat (any_goals ((first | (refine G.ifd ?_ ?_ <;> intro _) | (refine G.ifb ?_ ?_ <;> intro _) | (refine G.gddt ?_ ?_ <;> intro _) | (refine G.gddf ?_ ?_ <;> intro _) | (refine G.gdbt ?_ ?_ <;> intro _) | (refine G.gdbf ?_ ?_ <;> intro _)) <;> (try (exfalso; omega; done)) <;> (repeat (refine G.step ?_)))))
    · refine ⟨fun w hw => ⟨?_, hw⟩⟩
      unfold oddB
      rw [decide_eq_true (show n < 97 by omega), Bool.true_or]
    · refine ⟨fun w hw => ⟨?_, hw⟩⟩
      unfold oddB
      rw [decide_eq_false (show ¬ n < 97 by omega), Bool.false_or]
      congr 1
      rw [decide_eq_decide]
      omega
  refine Calls.mono (c108 _ _ W (hg.run W rfl)) fun e w' he => ?_
  cases e with
  | panicked c => exact he.elim
  | outgrown => exact he.elim
  | returned v => exact ⟨by rw [he.1], 0, he.2⟩
theorem validName_ok (s : List UInt8) (hs : s = nameA ∨ s = nameB) (h : Hp) : Ct Tryz.prog 80 [Str s] h (fun _ v => v = .bool true) := by
  refine ct80 ?_
  intro w0
  unfold s80
  have hl : s ≠ [] ∧ s.length ≤ 8 := by rcases hs with rfl | rfl <;> decide
  have hidx : Lib.idxFunc oddB true ⟨s.toArray⟩ = -1 := by rcases hs with rfl | rfl <;> decide +kernel
  obtain ⟨hl1, hl2⟩ := hl
  (repeat (first | refine G.step ?_ | refine G.gdy (by first | (simp; done) | omega) ?_))
  have hc : Ct Tryz.prog 107 [Str s, .func (.func 108) #[] ⟨[]⟩] h (fun _ v => v = I (-1)) := Ct.lib fun w hw => by
    refine Calls.mono (Tryz.strings_IndexFunc 108 #[] (by intro args w; kernel_rfl) oddB ⟨s.toArray⟩ w (fun W n _ => odd_gives n W)) fun e w' he => ?_
    exact ⟨_, he.1, by rw [hidx], he.2⟩
  refine Gs.callv0 hc ?_
  (repeat (refine G.step ?_))
  exact Gs.ret rfl
/-- Find: the first kind of a name. -/
def kdIdx (s : List UInt8) (l : List Kd) : Int := idxOf (fun k => decide (k.name = s)) l 0
theorem find_ok2 (g : Gm) (x : GmH) (s : List UInt8) (h : Hp) (hg : gmR h x g) (hl : g.kinds.length ≤ 1000000) : Ct Tryz.prog 81 [vGm g x, Str s] h (fun _ v => v = I (kdIdx s g.kinds)) := by
  refine ct81 ?_
  intro w0
  unfold s81
  obtain ⟨ks, hk1, hk2⟩ := hg.k
  (repeat (first | refine G.step ?_ | (refine Gs.box ?_; intro _)))
  rename_i gb nb
  refine in109 ?_
  refine sIdx_ok (t := 36) (e := 59) (l := ks) (fun k => decide (k.1 = s)) hk1 (by rw [hk2.len]; omega) ?_ ?_
  · intro K y hy hk
    refine G.capsA (all := [.agg #[Str y.1, slv y.2.1, .bool y.2.2], ptr nb 0]) rfl (in110 (arg0 := .agg #[Str y.1, slv y.2.1, .bool y.2.2]) (arg1 := ptr nb 0) ?_)
    unfold s110
    (repeat (first | refine G.step ?_ | (refine Gs.box ?_; intro _)))
    exact Gs.sel hk
  · have e : ∀ (l : List KdH) (m : List Kd) i, All2 (kdR h) l m → idxOf (fun k => decide (k.1 = s)) l i = idxOf (fun k => decide (k.name = s)) m i := by
      intro l m i hlm
      induction hlm generalizing i with
      | nil => rfl
      | cons h1 _ ih => unfold idxOf; rw [ih, h1.n]
    rw [e _ _ _ hk2]
    exact Gs.ret rfl
theorem containsProg (p : SlH → Bool) (l : List SlH) {v f : Value} (hr : RdE h v eSlH 1 l) (hn : l.length ≤ 4611686018427387904)
    (hf : ∀ (K : Value → WP) x, x ∈ l → Gs w0 h0 h L (K (.bool (p x))) → Gs w0 h0 h L (Do Tryz.prog (vCall f [slv x]) K))
    (hk : Gs w0 h0 h L (K (.bool (l.any p)))) : Gs w0 h0 h L (Do Tryz.prog (vCall (.func (.func 82) #[] ⟨[]⟩) [v, f]) K) := by
  refine in82 ?_
  unfold s82
  refine in111 ?_
  refine sIdx_ok (t := 57) (e := 85) p hr hn hf ?_
  refine G.step ?_
  rw [idxOf_any]
  exact hk
theorem containsClause (p : ClH → Bool) (l : List ClH) {v f : Value} (hr : RdE h v eCl 4 l) (hn : l.length ≤ 4611686018427387904)
    (hf : ∀ (K : Value → WP) x, x ∈ l → Gs w0 h0 h L (K (.bool (p x))) → Gs w0 h0 h L (Do Tryz.prog (vCall f [.agg #[I x.1, I x.2.1, I x.2.2.1, I x.2.2.2]]) K))
    (hk : Gs w0 h0 h L (K (.bool (l.any p)))) : Gs w0 h0 h L (Do Tryz.prog (vCall (.func (.func 83) #[] ⟨[]⟩) [v, f]) K) := by
  refine in83 ?_
  unfold s83
  refine in112 ?_
  refine sIdx_ok (t := 37) (e := 89) p hr hn hf ?_
  refine G.step ?_
  rw [idxOf_any]
  exact hk
theorem right_ok (g : Gm) (x : GmH) (c : ClH) (h : Hp) (hg : gmR h x g) (hl : g.kinds.length ≤ 1000000) (hc : rightC g.cells g.kinds.length c) : Ct Tryz.prog 85 [vGm g x, .agg #[I c.1, I c.2.1, I c.2.2.1, I c.2.2.2]] h (fun _ v => v = .bool true) := by
  refine ct85 ?_
  intro w0
  unfold s85
  obtain ⟨hres, hc⟩ := hc
  (repeat (refine Gs.box ?_; intro _))
  refine G.jnP (fun j => j = .bool (decide (0 ≤ c.2.1 ∧ c.2.1 < g.kinds.length))) ?_ ?_
  · rintro a rfl
    refine G.jk ?_; intro _
    (repeat (refine G.step ?_))
    refine isRes_call _ hres ?_
    (repeat (first | refine G.step ?_ | refine G.iff ?_))
    rcases hc with ⟨h1, h2, h3, h4⟩ | ⟨h1, h2, h3, h4, h5⟩ | ⟨h1, h2, h3, h4⟩
    · rw [decide_eq_true (show 0 ≤ c.2.1 ∧ c.2.1 < g.kinds.length from ⟨h2, h3⟩)]
      (repeat (first | refine G.step ?_ | refine G.gdtt ?_ | refine G.ify (by first | (simp; done) | omega) ?_))
      exact Gs.ret (by simp [h4])
    · rw [decide_eq_true (show 0 ≤ c.2.1 ∧ c.2.1 < g.kinds.length from ⟨h2, h3⟩)]
      (repeat (first | refine G.step ?_ | refine G.gdtt ?_ | refine G.gdy (by first | (simp; done) | omega) ?_ | refine G.ify (by first | (simp; done) | omega) ?_ | refine G.ifn (by first | (simp; done) | omega) ?_))
      exact Gs.ret (by simp [h5])
    · (repeat (first | refine G.step ?_ | refine G.gdy (by first | (simp; done) | omega) ?_ | refine G.ifn (by first | (simp; done) | omega) ?_))
      exact Gs.ret (by simp [h4])
  · intro K hK
    (repeat (refine G.step ?_))
    refine G.gddt ?_ ?_ <;> intro h1
    · (repeat (refine G.step ?_))
      refine Gs.lenF hg.k (by omega) ?_
      (repeat (refine G.step ?_))
      exact hK _ (by congr 1; rw [decide_eq_decide]; omega)
    · exact hK _ (by rw [decide_eq_false (by omega)])
theorem gameValid_ok (g : Gm) (x : GmH) (h : Hp) (hg : gmR h x g) (hG : GoodG g) : Ct Tryz.prog 42 [vGm g x] h (fun _ v => v = .bool true) := by
  refine ct42 ?_
  intro w0
  unfold s42
  have k1 := hG.k.l1
  have k2 := hG.k.l2
  have hr2 := hG.r
  have hcl := hG.cl
  (repeat (refine Gs.box ?_; intro _))
  rename_i gb
  refine G.jnP (fun j => j = .bool false) ?_ ?_
  · rintro a rfl
    refine G.jk ?_; intro _
    (repeat (first | refine G.step ?_ | refine G.iff ?_))
    refine Gs.lenF hg.k (by omega) ?_
    refine Gs.lp (β := Nat) (fun i => I i) (fun _ => h) (fun _ => [.blk gb [I g.cells, slv x.1, slv x.2.1, slv x.2.2.1, I g.rights, .bool g.must, slv x.2.2.2, I g.blocked, I g.endless] 39]) (fun i => i ≤ g.kinds.length) (fun i => g.kinds.length - i) 0 rfl (Nat.zero_le _) (fun _ h => h) ?_
    intro i hi cont hc
    (repeat (first | refine G.step ?_ | (refine G.jk ?_; intro _)))
    refine G.ifd ?_ ?_ <;> intro hlt
    · have hlt' : i < g.kinds.length := by omega
      refine Gs.indexF hg.k hlt' ?_
      intro b o y hp hy
      refine Gs.loadE hp ?_
      (repeat (first | (refine Gs.alloc ?_; intro _) | refine Gs.store ?_))
      rename_i kb
      have hnm := hG.k.nm i hlt'
      refine G.jnP (fun j => j = .bool false) ?_ ?_
      · rintro a rfl
        refine G.jk ?_; intro _
        (repeat (first | refine G.add (by omega) ?_ | refine G.iff ?_))
        exact Gs.goS (hc (i + 1) (by omega) (by omega)) rfl
      · intro K hK
        (repeat (refine G.step ?_))
        refine Gs.callv0 (validName_ok y.1 (by rw [hy.n, hnm]; split <;> simp) h) ?_
        (repeat (first | refine G.step ?_ | refine G.gdff ?_))
        refine Gs.callv0 (find_ok2 g x y.1 h hg (by omega)) ?_
        have hf : kdIdx y.1 g.kinds = i := by
          rw [hy.n]
          unfold kdIdx
          have hne : nameA ≠ nameB := by decide
          match hks : g.kinds, i, hlt' with
          | [a], 0, _ => simp [idxOf]
          | [a, b], 0, _ => simp [idxOf]
          | [a, b], 1, _ =>
            have n0 := hG.k.nm 0 (by rw [hks]; simp)
            have n1 := hG.k.nm 1 (by rw [hks]; simp)
            simp only [hks] at n0 n1
            simp at n0 n1
            simp [idxOf, n0, n1, hne]
          | a :: b :: c :: r, _, _ => rw [hks] at k2; simp at k2
        rw [hf]
        (repeat (first | refine G.step ?_ | refine G.gdbn (by first | (simp; done) | omega) ?_))
        have hpl := hG.k.pl _ (List.getElem_mem hlt')
        refine Gs.lenF hy.p (by omega) ?_
        (repeat (first | refine G.step ?_ | refine G.gdyf (by first | (simp; done) | omega) ?_))
        obtain ⟨ps, hp1, hp2⟩ := hy.p
        refine containsProg (fun _ => false) ps hp1 (by rw [hp2.len]; omega) ?_ ?_
        · intro K z hz hk
          obtain ⟨p, hpm, hpz⟩ := hp2.left hz
          obtain ⟨hv1, hv2⟩ := hG.k.pv _ (List.getElem_mem hlt') p hpm
          refine G.capsA (all := [slv z, ptr gb 0]) rfl (in78 (arg0 := slv z) (arg1 := ptr gb 0) ?_)
          unfold s78
          (repeat (refine G.step ?_))
          refine Gs.lenF hg.n (by have := hG.b.d8; omega) ?_
          (repeat (refine G.step ?_))
          refine Gs.lenF hg.k (by omega) ?_
          (repeat (refine G.step ?_))
          refine Gs.callv0 (valid_ok p (slv z) _ _ _ h hpz hv2) ?_
          rw [hv1]
          (repeat (refine G.step ?_))
          exact hk
        · rw [show ps.any (fun _ => false) = false by simp]
          exact hK _ rfl
    · (repeat (refine G.step ?_))
      refine containsClause (fun _ => false) g.clauses hg.c (by omega) ?_ ?_
      · intro K z hz hk
        refine G.capsA (all := [.agg #[I z.1, I z.2.1, I z.2.2.1, I z.2.2.2], ptr gb 0]) rfl (in84 (arg0 := .agg #[I z.1, I z.2.1, I z.2.2.1, I z.2.2.2]) (arg1 := ptr gb 0) ?_)
        unfold s84
        (repeat (first | refine G.step ?_ | (refine Gs.box ?_; intro _)))
        refine Gs.callv0 (right_ok g x z h hg (by omega) (hG.cr z hz)) ?_
        (repeat (refine G.step ?_))
        exact Gs.sel hk
      · rw [show g.clauses.any (fun _ => false) = false by simp]
        (repeat (refine G.step ?_))
        exact Gs.ret rfl
  · intro K hK
    (repeat (refine G.step ?_))
    refine Gs.callv0 (boardValid_ok g.cells g.next g.turn x.1 x.2.1 h hG.b hg.n hg.t) ?_
    (repeat (first | refine G.step ?_ | refine G.gdff ?_))
    refine Gs.lenF hg.k (by omega) ?_
    (repeat (first | refine G.step ?_ | refine G.gdyf (by first | (simp; done) | omega) ?_))
    refine Gs.lenF hg.k (by omega) ?_
    (repeat (first | refine G.step ?_ | refine G.gdff ?_ | refine G.gdyf (by first | (simp; done) | omega) ?_))
    refine Gs.lenE hg.c (by omega) ?_
    (repeat (first | refine G.step ?_ | refine G.gdyf (by first | (simp; done) | omega) ?_))
    refine isRes_call _ hG.bl ?_
    (repeat (first | refine G.step ?_ | refine G.gdff ?_))
    refine isRes_call _ hG.en ?_
    (repeat (refine G.step ?_))
    exact hK _ rfl
end Go.Proofs.YtcmokdokcghooaaGreatDoor
end

section
set_option linter.unusedVariables false
set_option maxHeartbeats 4000000
namespace Go.Proofs.YtcmokdokcghooaaGreatDoor
open Go Go.Sk Go.Pr Go.Ps Go.RowKit
variable {M : Go.Sk.Mode}
instance ix20 {S : WP} {b o : Nat} : Yd Tryz.prog S (V (Instr.indexAt 42 (ptr b o) (.int .i64 0))) (ptr b o) := Yd.ixA (sz := 1) (e := 33) (n := 2) ⟨by decide, by decide⟩ rfl
instance ix21 {S : WP} {b o c : Nat} [hc : AddN o 1 c] : Yd Tryz.prog S (V (Instr.indexAt 42 (ptr b o) (.int .i64 1))) (ptr b c) := Yd.ixA (sz := 1) (e := 33) (n := 2) ⟨by decide, by decide⟩ hc.ok
instance ldPos : LdE Tryz.prog 44 ePos (fun x => vPos x) := (LdE.agg : LdE Tryz.prog 44 ePos (fun x => .agg (ePos x).toArray))
theorem nan_ok (n : Int) (h : Hp) : Ct Tryz.prog 91 [I n] h (fun _ v => v = .bool false) := by
  refine ct91 ?_
  intro w0
  unfold s91
  (repeat (refine G.step ?_))
  exact Gs.ret (by simp)
theorem cmpI_ok (a b : Int) (h : Hp) : Ct Tryz.prog 58 [I a, I b] h (fun _ v => v = I (cmpI a b)) := by
  refine ct58 ?_
  intro w0
  unfold s58
  refine Gs.callv0 (nan_ok a h) ?_
  refine Gs.callv0 (nan_ok b h) ?_
  ((repeat (first | refine G.step ?_ | refine G.iff ?_)); repeat (any_goals ((first | (refine G.ifd ?_ ?_ <;> intro _) | (refine G.ifb ?_ ?_ <;> intro _) | (refine G.gddt ?_ ?_ <;> intro _) | (refine G.gddf ?_ ?_ <;> intro _) | (refine G.gdbt ?_ ?_ <;> intro _) | (refine G.gdbf ?_ ?_ <;> intro _)) <;> (try (exfalso; omega; done)) <;> (repeat (refine G.step ?_)))))
  all_goals refine Gs.ret ?_
  all_goals unfold cmpI
  · rw [if_pos (by omega)]
  · rw [if_neg (by omega), if_pos (by omega)]
  · rw [if_neg (by omega), if_neg (by omega)]
theorem number_ok (a b : Int) (h : Hp) : Ct Tryz.prog 60 [I a, I b] h (fun _ v => v = I (cmpI a b)) := by
  refine ct60 ?_
  intro w0
  unfold s60
  ((repeat (refine G.step ?_)); repeat (any_goals ((first | (refine G.ifd ?_ ?_ <;> intro _) | (refine G.ifb ?_ ?_ <;> intro _) | (refine G.gddt ?_ ?_ <;> intro _) | (refine G.gddf ?_ ?_ <;> intro _) | (refine G.gdbt ?_ ?_ <;> intro _) | (refine G.gdbf ?_ ?_ <;> intro _)) <;> (try (exfalso; omega; done)) <;> (repeat (refine G.step ?_)))))
  all_goals refine Gs.ret ?_
  all_goals unfold cmpI
  · rw [if_pos (by omega)]
  · rw [if_neg (by omega), if_pos (by omega)]
  · rw [if_neg (by omega), if_neg (by omega)]
theorem cmpL_drop {l m : List Int} {i : Nat} (h1 : i < l.length) (h2 : i < m.length) : cmpL (l.drop i) (m.drop i) = if cmpI l[i] m[i] ≠ 0 then cmpI l[i] m[i] else cmpL (l.drop (i + 1)) (m.drop (i + 1)) := by
  rw [List.drop_eq_getElem_cons h1, List.drop_eq_getElem_cons h2]
  rfl
theorem cmpL_end1 {l m : List Int} {i : Nat} (h1 : i < l.length) (h2 : m.length ≤ i) : cmpL (l.drop i) (m.drop i) = 1 := by
  rw [List.drop_eq_getElem_cons h1, List.drop_eq_nil_of_le h2]
  rfl
theorem cmpL_end2 {l m : List Int} {i : Nat} (h1 : l.length ≤ i) (h2 : i < m.length) : cmpL (l.drop i) (m.drop i) = -1 := by
  rw [List.drop_eq_getElem_cons h2, List.drop_eq_nil_of_le h1]
  rfl
theorem cmpL_end0 {l m : List Int} {i : Nat} (h1 : l.length ≤ i) (h2 : m.length ≤ i) : cmpL (l.drop i) (m.drop i) = 0 := by
  rw [List.drop_eq_nil_of_le h1, List.drop_eq_nil_of_le h2]
  rfl
theorem cmpL_ok (l m : List Int) (x y : Value) (h : Hp) (hx : RdE h x eInt 1 l) (hy : RdE h y eInt 1 m) (hl : l.length ≤ 4611686018427387904) (hm : m.length ≤ 4611686018427387904) : Ct Tryz.prog 57 [x, y] h (fun _ v => v = I (cmpL l m)) := by
  refine ct57 ?_
  intro w0
  unfold s57
  refine Gs.lenE hx (by omega) ?_
  refine Gs.lp (β := Nat) (fun i => I i) (fun _ => h) (fun _ => []) (fun i => i ≤ l.length ∧ i ≤ m.length ∧ cmpL (l.drop i) (m.drop i) = cmpL l m) (fun i => l.length - i) 0 rfl ⟨Nat.zero_le _, Nat.zero_le _, rfl⟩ (fun _ h => h) ?_
  rintro i ⟨hi, hi2, hR⟩ cont hc
  (repeat (first | refine G.step ?_ | (refine G.jk ?_; intro _)))
  refine G.ifd ?_ ?_ <;> intro hlt
  · have h1 : i < l.length := by omega
    refine Gs.indexE hx h1 ?_
    intro b o hp
    refine Gs.loadE hp ?_
    refine Gs.lenE hy (by omega) ?_
    (repeat (refine G.step ?_))
    refine G.ifd ?_ ?_ <;> intro hge
    · exact Gs.ret (by rw [← hR, cmpL_end1 h1 (by omega)])
    · have h2 : i < m.length := by omega
      refine Gs.indexE hy h2 ?_
      intro b' o' hp'
      refine Gs.loadE hp' ?_
      refine Gs.callv0 (cmpI_ok _ _ h) ?_
      (repeat (refine G.step ?_))
      have hd := cmpL_drop h1 h2
      refine G.ifd ?_ ?_ <;> intro hne
      · exact Gs.ret (by rw [← hR, hd, if_pos hne])
      · (repeat (refine G.add (by omega) ?_))
        refine Gs.go (hc (i + 1) ⟨by omega, by omega, ?_⟩ (by omega)) rfl
        rw [← hR, hd, if_neg hne]
  · refine Gs.lenE hx (by omega) ?_
    refine Gs.lenE hy (by omega) ?_
    (repeat (refine G.step ?_))
    refine G.ifd ?_ ?_ <;> intro hlt2
    · exact Gs.ret (by rw [← hR, cmpL_end2 (by omega) (by omega)])
    · exact Gs.ret (by rw [← hR, cmpL_end0 (by omega) (by omega)])
theorem list_ok (l m : List Int) (x y : Value) (h : Hp) (hx : RdE h x eInt 1 l) (hy : RdE h y eInt 1 m) (hl : l.length ≤ 4611686018427387904) (hm : m.length ≤ 4611686018427387904) : Ct Tryz.prog 59 [x, y] h (fun _ v => v = I (cmpL l m)) := by
  refine ct59 ?_
  intro w0
  unfold s59
  refine Gs.lp (β := Nat) (fun i => I i) (fun _ => h) (fun _ => []) (fun i => i ≤ l.length ∧ i ≤ m.length ∧ cmpL (l.drop i) (m.drop i) = cmpL l m) (fun i => l.length - i) 0 rfl ⟨Nat.zero_le _, Nat.zero_le _, rfl⟩ (fun _ h => h) ?_
  rintro i ⟨hi, hi2, hR⟩ cont hc
  (repeat (refine G.jk ?_; intro _))
  refine G.jnP (fun j => j = .bool (decide (i < l.length ∧ i < m.length))) ?_ ?_
  · rintro a rfl
    refine G.jk ?_; intro _
    refine G.ifd ?_ ?_ <;> intro hlt
    · obtain ⟨h1, h2⟩ := hlt
      have hd := cmpL_drop h1 h2
      (repeat (refine Gs.dr ?_))
      refine Gs.qindexE hx h1 ?_
      intro b o hp
      refine Gs.qloadE hp ?_
      refine Gs.qindexE hy h2 ?_
      intro b' o' hp'
      refine Gs.qloadE hp' ?_
      (repeat (refine G.qkp ?_))
      refine G.ifd ?_ ?_ <;> intro hne
      · (repeat (refine Gs.dr ?_))
        refine Gs.qindexE hx h1 ?_
        intro b o hp
        refine Gs.qloadE hp ?_
        refine Gs.qindexE hy h2 ?_
        intro b' o' hp'
        refine Gs.qloadE hp' ?_
        refine Gs.callv0 (number_ok _ _ h) ?_
        have : cmpI l[i] m[i] ≠ 0 := fun e => hne ((lin_cmpI.eq _ _).1 e)
        exact Gs.ret (by rw [← hR, hd, if_pos this])
      · (repeat (refine G.add (by omega) ?_))
        have e0 : l[i] = m[i] := by omega
        have : cmpI l[i] m[i] = 0 := (lin_cmpI.eq _ _).2 e0
        refine Gs.go (hc (i + 1) ⟨by omega, by omega, ?_⟩ (by omega)) rfl
        rw [← hR, hd, if_neg (by omega)]
    · refine Gs.lenE hx (by omega) ?_
      refine Gs.lenE hy (by omega) ?_
      refine Gs.callv0 (number_ok _ _ h) ?_
      refine Gs.ret ?_
      rw [← hR]
      congr 1
      unfold cmpI
      by_cases e1 : l.length ≤ i
      · by_cases e2 : m.length ≤ i
        · rw [cmpL_end0 e1 e2, if_neg (by omega), if_neg (by omega)]
        · rw [cmpL_end2 e1 (by omega), if_pos (by omega)]
      · rw [cmpL_end1 (by omega) (by omega), if_neg (by omega), if_pos (by omega)]
  · intro K hK
    refine Gs.lenE hx (by omega) ?_
    (repeat (refine G.step ?_))
    refine G.gddt ?_ ?_ <;> intro h1
    · refine Gs.lenE hy (by omega) ?_
      (repeat (refine G.step ?_))
      exact hK _ (by congr 1; rw [decide_eq_decide]; omega)
    · exact hK _ (by rw [decide_eq_false (by omega)])
theorem or_ok (l : List Int) (x : Value) (h : Hp) (hx : RdE h x eInt 1 l) (hl : l.length ≤ 4611686018427387904) : Ct Tryz.prog 56 [x] h (fun _ v => v = I (orL l)) := by
  refine ct56 ?_
  intro w0
  unfold s56
  refine Gs.lenE hx (by omega) ?_
  refine Gs.lp (β := Nat) (fun i => I i) (fun _ => h) (fun _ => []) (fun i => i ≤ l.length ∧ orL (l.drop i) = orL l) (fun i => l.length - i) 0 rfl ⟨Nat.zero_le _, rfl⟩ (fun _ h => h) ?_
  rintro i ⟨hi, hR⟩ cont hc
  (repeat (first | refine G.step ?_ | (refine G.jk ?_; intro _)))
  refine G.ifd ?_ ?_ <;> intro hlt
  · have h1 : i < l.length := by omega
    have hd : orL (l.drop i) = if l[i] ≠ 0 then l[i] else orL (l.drop (i + 1)) := by rw [List.drop_eq_getElem_cons h1]; rfl
    refine Gs.indexE hx h1 ?_
    intro b o hp
    refine Gs.loadE hp ?_
    (repeat (refine G.step ?_))
    refine G.ifd ?_ ?_ <;> intro hne
    · exact Gs.ret (by rw [← hR, hd, if_pos hne])
    · (repeat (refine G.add (by omega) ?_))
      refine Gs.go (hc (i + 1) ⟨by omega, ?_⟩ (by omega)) rfl
      rw [← hR, hd, if_neg hne]
  · refine Gs.ret ?_
    rw [← hR, List.drop_eq_nil_of_le (by omega)]
    rfl
theorem cmpP_ok (x y : PosH) (p q : Pt) (h : Hp) (hx : posR h x p) (hy : posR h y q) : Ct Tryz.prog 24 [vPos x, vPos y] h (fun _ v => v = I (cmpP p q)) := by
  refine ct24 ?_
  intro w0
  unfold s24
  (repeat (first | (refine Gs.box ?_; intro _) | refine Gs.dr ?_ | refine G.qkp ?_ | refine Gs.qkb ?_))
  refine Gs.callv0 (cmpL_ok p.c q.c _ _ h hx.c hy.c hx.lc hy.lc) ?_
  (repeat (first | refine G.withT ?_ | refine Gs.withb ?_))
  refine Gs.callv0 (cmpL_ok p.a q.a _ _ h hx.a hy.a hx.la hy.la) ?_
  (repeat (first | refine G.withT ?_ | refine Gs.withb ?_))
  refine Gs.callv0 (cmpL_ok p.b q.b _ _ h hx.b hy.b hx.lb hy.lb) ?_
  (repeat (first | refine G.withT ?_ | refine Gs.withb ?_))
  refine Gs.callv0 (cmpI_ok _ _ h) ?_
  (repeat (first | refine G.withT ?_ | refine Gs.withb ?_))
  refine Gs.callv0 (cmpI_ok _ _ h) ?_
  rw [hx.r, hx.s, hy.r, hy.s]
  refine Gs.buildSlice (by decide) ?_
  intro b
  refine Gs.freezeE (v := .slice (some ⟨b, 0, none⟩) 5 5) (enc := eInt) (l := [cmpL p.c q.c, cmpL p.a q.a, cmpL p.b q.b, cmpI p.r q.r, cmpI p.s q.s]) (by decide) ?_
  intro h' hle hr
  refine Gs.callv0 (or_ok _ _ h' hr (by simp)) ?_
  exact Gs.ret rfl
theorem rcmpP_ok (x y : PosH) (p q : Pt) (h : Hp) (hx : posR h x p) (hy : posR h y q) : Ct Tryz.prog 25 [vPos x, vPos y] h (fun _ v => v = I (cmpP p q)) := by
  refine ct25 ?_
  intro w0
  unfold s25
  (repeat (first | (refine Gs.box ?_; intro _) | refine Gs.dr ?_ | refine G.qkp ?_ | refine Gs.qkb ?_))
  refine Gs.callv0 (list_ok p.c q.c _ _ h hx.c hy.c hx.lc hy.lc) ?_
  (repeat (first | refine G.withT ?_ | refine Gs.withb ?_))
  refine Gs.callv0 (list_ok p.a q.a _ _ h hx.a hy.a hx.la hy.la) ?_
  (repeat (first | refine G.withT ?_ | refine Gs.withb ?_))
  refine Gs.callv0 (list_ok p.b q.b _ _ h hx.b hy.b hx.lb hy.lb) ?_
  (repeat (first | refine G.withT ?_ | refine Gs.withb ?_))
  refine Gs.callv0 (number_ok _ _ h) ?_
  (repeat (first | refine G.withT ?_ | refine Gs.withb ?_))
  refine Gs.callv0 (number_ok _ _ h) ?_
  rw [hx.r, hx.s, hy.r, hy.s]
  refine Gs.buildSlice (by decide) ?_
  intro b
  refine Gs.freezeE (v := .slice (some ⟨b, 0, none⟩) 5 5) (enc := eInt) (l := [cmpL p.c q.c, cmpL p.a q.a, cmpL p.b q.b, cmpI p.r q.r, cmpI p.s q.s]) (by decide) ?_
  intro h' hle hr
  have hu : cmpP p q = orL [cmpL p.c q.c, cmpL p.a q.a, cmpL p.b q.b, cmpI p.r q.r, cmpI p.s q.s] := rfl
  have hl5 : [cmpL p.c q.c, cmpL p.a q.a, cmpL p.b q.b, cmpI p.r q.r, cmpI p.s q.s].length = 5 := rfl
  generalize [cmpL p.c q.c, cmpL p.a q.a, cmpL p.b q.b, cmpI p.r q.r, cmpI p.s q.s] = l at *
  refine Gs.lp (β := Nat) (fun i => I i) (fun _ => h') (fun _ => []) (fun i => i ≤ l.length ∧ orL (l.drop i) = orL l) (fun i => l.length - i) 0 rfl ⟨Nat.zero_le _, rfl⟩ (fun w s => s.sub (by simp)) ?_
  rintro i ⟨hi, hR⟩ cont hc
  (repeat (refine G.jk ?_; intro _))
  refine Gs.lenE hr (by omega) ?_
  (repeat (refine G.step ?_))
  refine G.ifd ?_ ?_ <;> intro hlt
  · have h1 : i < l.length := by omega
    have hd : orL (l.drop i) = if l[i] ≠ 0 then l[i] else orL (l.drop (i + 1)) := by rw [List.drop_eq_getElem_cons h1]; rfl
    refine Gs.indexE hr h1 ?_
    intro b o hp
    refine Gs.loadE hp ?_
    (repeat (refine G.step ?_))
    refine G.ifd ?_ ?_ <;> intro hne
    · refine Gs.indexE hr h1 ?_
      intro b o hp
      refine Gs.loadE hp ?_
      exact Gs.ret (by rw [hu, ← hR, hd, if_pos hne])
    · (repeat (refine G.add (by omega) ?_))
      refine Gs.go (hc (i + 1) ⟨by omega, ?_⟩ (by omega)) rfl
      rw [← hR, hd, if_neg hne]
  · refine Gs.ret ?_
    rw [hu, ← hR, List.drop_eq_nil_of_le (by omega)]
    rfl
theorem rsame_ok (x y : PosH) (p q : Pt) (h : Hp) (hx : posR h x p) (hy : posR h y q) : Ct Tryz.prog 36 [vPos x, vPos y] h (fun _ v => v = .bool (decide (p = q))) := by
  refine ct36 ?_
  intro w0
  unfold s36
  (repeat (first | refine G.step ?_ | (refine Gs.box ?_; intro _)))
  refine Gs.callv0 (rcmpP_ok x y p q h hx hy) ?_
  (repeat (refine G.step ?_))
  exact Gs.ret (by congr 1; rw [decide_eq_decide]; exact lin_cmpP.eq p q)
theorem sort1_ok (x y : PosH) (p q : Pt) (h : Hp) (hx : posR h x p) (hy : posR h y q) : Ct Tryz.prog 55 [vPos x, vPos y] h (fun _ v => v = .bool (decide (p = q))) := by
  refine ct55 ?_
  intro w0
  unfold s55
  (repeat (first | refine G.step ?_ | (refine Gs.box ?_; intro _)))
  refine Gs.callv0 (cmpP_ok x y p q h hx hy) ?_
  (repeat (refine G.step ?_))
  exact Gs.ret (by congr 1; rw [decide_eq_decide]; exact lin_cmpP.eq p q)
theorem ints_ok (l m : List Int) (x y : Value) (h : Hp) (hx : RdE h x eInt 1 l) (hy : RdE h y eInt 1 m) (hl : l.length ≤ 4611686018427387904) (hm : m.length ≤ 4611686018427387904) : Ct Tryz.prog 32 [x, y] h (fun _ v => v = .bool (decide (l = m))) := by
  refine ct32 ?_
  intro w0
  unfold s32
  refine Gs.lenE hx (by omega) ?_
  refine Gs.lenE hy (by omega) ?_
  (repeat (refine G.step ?_))
  refine G.ifd ?_ ?_ <;> intro hne
  · exact Gs.ret (by rw [decide_eq_false (fun e => hne (by rw [e]))])
  · have hlm : l.length = m.length := by omega
    refine Gs.lp (β := Nat) (fun i => I i) (fun _ => h) (fun _ => []) (fun i => i ≤ l.length ∧ ∀ j (h1 : j < l.length) (h2 : j < m.length), j < i → l[j] = m[j]) (fun i => l.length - i) 0 rfl ⟨Nat.zero_le _, fun j _ _ h => by omega⟩ (fun _ h => h) ?_
    rintro i ⟨hi, hR⟩ cont hc
    (repeat (refine G.jk ?_; intro _))
    refine Gs.lenE hx (by omega) ?_
    (repeat (refine G.step ?_))
    refine G.ifd ?_ ?_ <;> intro hlt
    · have h1 : i < l.length := by omega
      have h2 : i < m.length := by omega
      (repeat (refine Gs.dr ?_))
      refine Gs.qindexE hx h1 ?_
      intro b o hp
      refine Gs.qloadE hp ?_
      refine Gs.qindexE hy h2 ?_
      intro b' o' hp'
      refine Gs.qloadE hp' ?_
      (repeat (refine G.qkp ?_))
      refine G.ifd ?_ ?_ <;> intro hq
      · refine Gs.ret ?_
        rw [decide_eq_false]
        intro e
        subst e
        exact hq rfl
      · (repeat (refine G.add (by omega) ?_))
        refine Gs.go (hc (i + 1) ⟨by omega, fun j h3 h4 h5 => ?_⟩ (by omega)) rfl
        rcases Nat.lt_or_ge j i with h6 | h6
        · exact hR j h3 h4 h6
        · have : j = i := by omega
          subst this
          omega
    · refine Gs.ret ?_
      rw [decide_eq_true]
      exact List.ext_getElem hlm fun j h3 h4 => hR j h3 h4 (by omega)
theorem equal_ok (x y : PosH) (p q : Pt) (h : Hp) (hx : posR h x p) (hy : posR h y q) : Ct Tryz.prog 18 [vPos x, vPos y] h (fun _ v => v = .bool (decide (p = q))) := by
  refine ct18 ?_
  intro w0
  unfold s18
  have he : ∀ b, b = decide (p.c = q.c ∧ p.a = q.a ∧ p.b = q.b ∧ p.r = q.r ∧ p.s = q.s) → Value.bool b = .bool (decide (p = q)) := by
    intro b hb
    rw [hb]
    congr 1
    rw [decide_eq_decide]
    cases p; cases q; simp
  (repeat (first | refine G.step ?_ | (refine Gs.box ?_; intro _)))
  refine Gs.callv0 (ints_ok p.c q.c _ _ h hx.c hy.c hx.lc hy.lc) ?_
  refine G.gddt ?_ ?_ <;> intro e1
  · (repeat (refine G.step ?_))
    refine Gs.callv0 (ints_ok p.a q.a _ _ h hx.a hy.a hx.la hy.la) ?_
    refine G.gddt ?_ ?_ <;> intro e2
    · (repeat (refine G.step ?_))
      refine Gs.callv0 (ints_ok p.b q.b _ _ h hx.b hy.b hx.lb hy.lb) ?_
      refine G.gddt ?_ ?_ <;> intro e3
      · (repeat (refine G.step ?_))
        rw [hx.r, hy.r]
        refine G.gddt ?_ ?_ <;> intro e4
        · (repeat (refine G.step ?_))
          rw [hx.s, hy.s]
          exact Gs.ret (he _ (by simp [e1, e2, e3, e4]))
        · exact Gs.ret (he _ (by simp [e4]))
      · exact Gs.ret (he _ (by simp [e3]))
    · exact Gs.ret (he _ (by simp [e2]))
  · exact Gs.ret (he _ (by simp [e1]))
end Go.Proofs.YtcmokdokcghooaaGreatDoor
end

section
set_option linter.unusedVariables false
set_option maxHeartbeats 4000000
namespace Go.Proofs.YtcmokdokcghooaaGreatDoor
open Go Go.Sk Go.Pr Go.Ps Go.RowKit
variable {w0 : World} {h0 h : Hp} {L : List Itm} {K : Value → WP}
theorem hand_ok (g : Gm) (x : GmH) (l : List Int) (v : Value) (h : Hp) (hg : gmR h x g) (hk : g.kinds.length ≤ 1000000) (hr : RdE h v eInt 1 l) (hl : l.length ≤ 4611686018427387904) : Ct Tryz.prog 50 [vGm g x, v] h (fun _ r => r = .bool (handB g.kinds l)) := by
  refine ct50 ?_
  intro w0
  unfold s50
  (repeat (refine Gs.box ?_; intro _))
  rename_i gb
  refine Gs.lenE hr (by omega) ?_
  (repeat (refine G.step ?_))
  refine Gs.lenF hg.k (by omega) ?_
  (repeat (refine G.step ?_))
  refine G.ifd ?_ ?_ <;> intro hne
  · refine Gs.ret ?_
    cases hb : handB g.kinds l
    · rfl
    · exact absurd (by rw [handB_len hb]) hne
  · have hlk : l.length = g.kinds.length := by omega
    refine Gs.lenE hr (by omega) ?_
    refine Gs.lp (β := Nat) (fun i => I i) (fun _ => h) (fun _ => [.blk gb [I g.cells, slv x.1, slv x.2.1, slv x.2.2.1, I g.rights, .bool g.must, slv x.2.2.2, I g.blocked, I g.endless] 100]) (fun i => i ≤ l.length ∧ handB (g.kinds.drop i) (l.drop i) = handB g.kinds l) (fun i => l.length - i) 0 rfl ⟨Nat.zero_le _, rfl⟩ (fun _ h => h) ?_
    rintro i ⟨hi, hR⟩ cont hc
    (repeat (first | refine G.step ?_ | (refine G.jk ?_; intro _)))
    refine G.ifd ?_ ?_ <;> intro hlt
    · have h1 : i < l.length := by omega
      have h2 : i < g.kinds.length := by omega
      have hd := handB_drop h2 h1
      refine Gs.indexE hr h1 ?_
      intro b o hp
      refine Gs.loadE hp ?_
      refine G.jnP (fun j => j = .bool (!decide (0 ≤ l[i] ∧ l[i] ≤ 8 ∧ (0 < l[i] → g.kinds[i].keep = true)))) ?_ ?_
      · rintro a rfl
        refine G.jk ?_; intro _
        refine G.ifb ?_ ?_ <;> intro hb
        · simp only [Bool.not_eq_true'] at hb
          exact Gs.ret (by rw [← hR, hd, hb]; rfl)
        · simp only [Bool.not_eq_false'] at hb
          (repeat (refine G.add (by omega) ?_))
          refine Gs.go (hc (i + 1) ⟨by omega, ?_⟩ (by omega)) rfl
          rw [← hR, hd, hb]; rfl
      · intro K hK
        (repeat (refine G.step ?_))
        refine G.gddf ?_ ?_ <;> intro q1
        · exact hK _ (by rw [decide_eq_false (by omega)]; rfl)
        · (repeat (refine G.step ?_))
          refine G.gddf ?_ ?_ <;> intro q2
          · exact hK _ (by rw [decide_eq_false (by omega)]; rfl)
          · (repeat (refine G.step ?_))
            refine G.gddt ?_ ?_ <;> intro q3
            · (repeat (refine G.step ?_))
              refine Gs.indexF hg.k h2 ?_
              intro b2 o2 y hp2 hy
              (repeat (refine G.step ?_))
              refine Gs.loadP1 hp2.field ?_
              rw [hy.k]
              (repeat (refine G.step ?_))
              refine hK _ ?_
              congr 2
              by_cases hkp : g.kinds[i].keep = true
              · rw [hkp, decide_eq_true ⟨by omega, by omega, fun _ => rfl⟩]
              · rw [decide_eq_false (fun hh => hkp (hh.2.2 q3))]
                simpa using hkp
            · exact hK _ (by rw [decide_eq_true ⟨by omega, by omega, fun hh => absurd hh q3⟩]; rfl)
    · refine Gs.ret ?_
      rw [← hR, handB_end (by omega) (by omega)]
theorem hands_ok (g : Gm) (x : GmH) (l : List Int) (v : Value) (h : Hp) (hg : gmR h x g) (hk : g.kinds.length ≤ 1000000) (hr : RdE h v eInt 1 l) (hl : l.length ≤ 4611686018427387904) : Ct Tryz.prog 63 [vGm g x, v] h (fun _ r => r = .bool (handB g.kinds l)) := by
  refine ct63 ?_
  intro w0
  unfold s63
  (repeat (refine Gs.box ?_; intro _))
  rename_i gb
  refine Gs.lenE hr (by omega) ?_
  (repeat (refine G.step ?_))
  refine Gs.lenF hg.k (by omega) ?_
  (repeat (refine G.step ?_))
  refine G.ifd ?_ ?_ <;> intro hne
  · refine Gs.ret ?_
    cases hb : handB g.kinds l
    · rfl
    · exact absurd (by rw [handB_len hb]) hne
  · have hlk : l.length = g.kinds.length := by omega
    refine Gs.lp (β := Nat) (fun i => I i) (fun _ => h) (fun _ => [.blk gb [I g.cells, slv x.1, slv x.2.1, slv x.2.2.1, I g.rights, .bool g.must, slv x.2.2.2, I g.blocked, I g.endless] 39]) (fun i => i ≤ l.length ∧ handB (g.kinds.drop i) (l.drop i) = handB g.kinds l) (fun i => l.length - i) 0 rfl ⟨Nat.zero_le _, rfl⟩ (fun _ h => h) ?_
    rintro i ⟨hi, hR⟩ cont hc
    (repeat (refine G.jk ?_; intro _))
    refine Gs.lenE hr (by omega) ?_
    (repeat (refine G.step ?_))
    refine G.ifd ?_ ?_ <;> intro hlt
    · have h1 : i < l.length := by omega
      have h2 : i < g.kinds.length := by omega
      have hd := handB_drop h2 h1
      refine G.jnP (fun j => j = .bool (!decide (0 ≤ l[i] ∧ l[i] ≤ 8 ∧ (0 < l[i] → g.kinds[i].keep = true)))) ?_ ?_
      · rintro a rfl
        refine G.jk ?_; intro _
        refine G.ifb ?_ ?_ <;> intro hb
        · simp only [Bool.not_eq_true'] at hb
          exact Gs.ret (by rw [← hR, hd, hb]; rfl)
        · simp only [Bool.not_eq_false'] at hb
          (repeat (refine G.add (by omega) ?_))
          refine Gs.go (hc (i + 1) ⟨by omega, ?_⟩ (by omega)) rfl
          rw [← hR, hd, hb]; rfl
      · intro K hK
        refine Gs.indexE hr h1 ?_
        intro b o hp
        refine Gs.loadE hp ?_
        (repeat (refine G.step ?_))
        refine G.gddf ?_ ?_ <;> intro q1
        · exact hK _ (by rw [decide_eq_false (by omega)]; rfl)
        · refine Gs.indexE hr h1 ?_
          intro b o hp
          refine Gs.loadE hp ?_
          (repeat (refine G.step ?_))
          refine G.gddf ?_ ?_ <;> intro q2
          · exact hK _ (by rw [decide_eq_false (by omega)]; rfl)
          · refine Gs.indexE hr h1 ?_
            intro b o hp
            refine Gs.loadE hp ?_
            (repeat (refine G.step ?_))
            refine G.gddt ?_ ?_ <;> intro q3
            · (repeat (refine G.step ?_))
              refine Gs.indexF hg.k h2 ?_
              intro b2 o2 y hp2 hy
              (repeat (refine G.step ?_))
              refine Gs.loadP1 hp2.field ?_
              rw [hy.k]
              (repeat (refine G.step ?_))
              refine hK _ ?_
              congr 2
              by_cases hkp : g.kinds[i].keep = true
              · rw [hkp, decide_eq_true ⟨by omega, by omega, fun _ => rfl⟩]
              · rw [decide_eq_false (fun hh => hkp (hh.2.2 q3))]
                simpa using hkp
            · exact hK _ (by rw [decide_eq_true ⟨by omega, by omega, fun hh => absurd hh q3⟩]; rfl)
    · refine Gs.ret ?_
      rw [← hR, handB_end (by omega) (by omega)]
theorem content_ok (g : Gm) (x : GmH) (n : Int) (h : Hp) (hg : gmR h x g) (hk : g.kinds.length ≤ 1000000) : Ct Tryz.prog 47 [vGm g x, I n] h (fun _ r => r = .bool (inC g.kinds.length n)) := by
  refine ct47 ?_
  intro w0
  unfold s47
  (repeat (first | refine G.step ?_ | (refine Gs.box ?_; intro _)))
  refine G.gddt ?_ ?_ <;> intro q
  · (repeat (refine G.step ?_))
    refine Gs.lenF hg.k (by omega) ?_
    (repeat (first | refine G.mul (by omega) ?_ | refine G.step ?_))
    exact Gs.ret (by unfold inC; congr 1; rw [decide_eq_decide]; omega)
  · exact Gs.ret (by unfold inC; rw [decide_eq_false (by omega)])
theorem any_not (p : Int → Bool) (l : List Int) : l.any (fun n => !p n) = !l.all p := by
  induction l with
  | nil => rfl
  | cons a r ih => rw [List.any_cons, List.all_cons, ih, Bool.not_and]
theorem shl1 (r : Nat) (h : r ≤ 20) : (1 : Int) * 2 ^ (r : Int).toNat = 2 ^ r ∧ -9223372036854775808 ≤ (1 : Int) * 2 ^ (r : Int).toNat ∧ (1 : Int) * 2 ^ (r : Int).toNat ≤ 9223372036854775807 := by
  rw [Int.toNat_natCast, Int.one_mul]
  have h1 : (2 : Int) ^ r ≤ 2 ^ 20 := by
    have := Nat.pow_le_pow_right (n := 2) (by decide) h
    have e : ((2 ^ r : Nat) : Int) = (2 : Int) ^ r := by simp
    have e2 : ((2 ^ 20 : Nat) : Int) = (2 : Int) ^ 20 := by simp
    omega
  have h2 : (0 : Int) < 2 ^ r := Int.pow_pos (by decide)
  refine ⟨rfl, by omega, ?_⟩
  have : (2 : Int) ^ 20 = 1048576 := by decide
  omega
theorem G.qshl1 {S : WP} {K : WP → Value → WP} {t : TypeId} {r : Nat} (h : r ≤ 20) (hk : G S (K TrueC (I (2 ^ r)))) : G S (Qk Tryz.prog (V (binOp .shl t (I 1) (I r))) K) := by
  obtain ⟨h1, h2⟩ := shl1 r h
  haveI : Yd Tryz.prog TrueC (V (binOp .shl t (I 1) (I r))) (I (2 ^ r)) := by
    have := Yd.shl (P := Tryz.prog) (S := TrueC) (t := t) (yk := .i64) (a := 1) (y := r) (by omega) h2
    rw [h1] at this
    exact this
  exact G.qkp hk
theorem pvalid_ok (g : Gm) (x : GmH) (y : PosH) (p : Pt) (h : Hp) (hg : gmR h x g) (hk : g.kinds.length ≤ 1000000) (hr2 : g.rights ≤ 20) (hc : g.cells ≤ 1000000) (hp : posR h y p) : Ct Tryz.prog 19 [vGm g x, vPos y] h (fun _ r => r = .bool (validP g p)) := by
  refine ct19 ?_
  intro w0
  unfold s19
  have hlc := hp.lc
  have hv : validP g p = (decide (p.c.length = g.cells) && (p.c.all (inC g.kinds.length) && (handB g.kinds p.a && (handB g.kinds p.b && (decide (0 ≤ p.r ∧ p.r < 2 ^ g.rights) && decide (p.s = 0 ∨ p.s = 1)))))) := rfl
  (repeat (first | refine G.step ?_ | (refine Gs.box ?_; intro _) | (refine Gs.alloc ?_; intro _) | refine Gs.store ?_ | refine Gs.dr ?_ | refine G.qkp ?_ | refine Gs.qkb ?_))
  rename_i gb pb rb cb
  refine Gs.qlenE hp.c (by omega) ?_
  (repeat (first | refine G.qkp ?_ | refine Gs.qkb ?_))
  refine G.gddt ?_ ?_ <;> intro q1
  · have q1' : p.c.length = g.cells := by omega
    rw [decide_eq_true q1', Bool.true_and] at hv
    (repeat (first | refine G.qkp ?_ | refine Gs.qkb ?_))
    refine containsInt (fun n => !inC g.kinds.length n) p.c hp.c (by omega) ?_ ?_
    · intro K n hn hk2
      refine G.capsA (all := [I n, ptr cb 0]) rfl (in48 (arg0 := I n) (arg1 := ptr cb 0) ?_)
      unfold s48
      (repeat (refine G.step ?_))
      refine Gs.first ?_
      refine Gs.callv0 (content_ok g x n h hg hk) ?_
      (repeat (refine G.step ?_))
      exact hk2
    · rw [any_not]
      (repeat (refine G.qkp ?_))
      rw [Bool.not_not]
      refine G.gdbt ?_ ?_ <;> intro q2
      · rw [q2, Bool.true_and] at hv
        (repeat (first | refine G.qkp ?_ | refine Gs.qkb ?_))
        refine Gs.callv0 (hand_ok g x p.a _ h hg hk hp.a hp.la) ?_
        refine G.gdbt ?_ ?_ <;> intro q3
        · rw [q3, Bool.true_and] at hv
          (repeat (first | refine G.qkp ?_ | refine Gs.qkb ?_))
          refine Gs.callv0 (hand_ok g x p.b _ h hg hk hp.b hp.lb) ?_
          refine G.gdbt ?_ ?_ <;> intro q4
          · rw [q4, Bool.true_and] at hv
            (repeat (first | refine G.qkp ?_ | refine Gs.qkb ?_))
            rw [hp.r]
            refine G.gddt ?_ ?_ <;> intro q5
            · (repeat (first | refine G.qkp ?_ | refine Gs.qkb ?_))
              refine G.qshl1 (by omega) ?_
              (repeat (refine G.qkp ?_))
              refine G.gddt ?_ ?_ <;> intro q6
              · rw [decide_eq_true (show 0 ≤ p.r ∧ p.r < 2 ^ g.rights from ⟨q5, q6⟩), Bool.true_and] at hv
                (repeat (first | refine G.qkp ?_ | refine Gs.qkb ?_))
                rw [hp.s]
                refine G.gddf ?_ ?_ <;> intro q7
                · exact Gs.ret (by rw [hv, decide_eq_true (.inl q7)])
                · (repeat (first | refine G.qkp ?_ | refine Gs.qkb ?_))
                  exact Gs.ret (by rw [hv]; congr 1; rw [decide_eq_decide]; omega)
              · exact Gs.ret (by rw [hv, decide_eq_false (fun hh => q6 hh.2)]; rfl)
            · exact Gs.ret (by rw [hv, decide_eq_false (fun hh => q5 hh.1)]; rfl)
          · exact Gs.ret (by rw [hv, q4]; rfl)
        · exact Gs.ret (by rw [hv, q3]; rfl)
      · exact Gs.ret (by rw [hv, q2]; rfl)
  · exact Gs.ret (by rw [hv, decide_eq_false (by omega)]; rfl)
end Go.Proofs.YtcmokdokcghooaaGreatDoor
end

section
set_option linter.unusedVariables false
set_option maxHeartbeats 4000000
namespace Go.Proofs.YtcmokdokcghooaaGreatDoor
open Go Go.Sk Go.Pr Go.Ps Go.RowKit
variable {w0 : World} {h0 h : Hp} {L : List Itm} {K : Value → WP}
theorem rvalid_ok (g : Gm) (x : GmH) (y : PosH) (p : Pt) (h : Hp) (hg : gmR h x g) (hk : g.kinds.length ≤ 1000000) (hr2 : g.rights ≤ 20) (hc : g.cells ≤ 1000000) (hp : posR h y p) : Ct Tryz.prog 28 [vGm g x, vPos y] h (fun _ r => r = .bool (validP g p)) := by
  obtain ⟨ya, yb, yc, yr, ys⟩ := y
  obtain rfl : yr = p.r := hp.r
  obtain rfl : ys = p.s := hp.s
  change Ct Tryz.prog 28 [vGm g x, .agg #[slv ya, slv yb, slv yc, I p.r, I p.s]] h _
  refine ct28 ?_
  intro w0
  unfold s28
  have hlc := hp.lc
  rw [validP_eq]
  generalize hA : (decide (p.c.length = g.cells) && (handB g.kinds p.a && (handB g.kinds p.b && (decide (0 ≤ p.r ∧ p.r < 2 ^ g.rights) && decide (p.s = 0 ∨ p.s = 1))))) = A
  (repeat (refine Gs.box ?_; intro _))
  rename_i gb pb
  refine G.jnP (fun j => j = .bool (!A)) ?_ ?_
  · rintro a rfl
    refine G.jk ?_; intro _
    cases A
    · (repeat (refine G.ift ?_))
      exact Gs.ret rfl
    · (repeat (refine G.iff ?_))
      rw [Bool.true_and]
      clear hA
      refine Gs.lp (β := Nat) (fun i => I i) (fun _ => h) (fun _ => [.blk pb [slv ya, slv yb, slv yc, I p.r, I p.s] 44, .blk gb [I g.cells, slv x.1, slv x.2.1, slv x.2.2.1, I g.rights, .bool g.must, slv x.2.2.2, I g.blocked, I g.endless] 39]) (fun i => i ≤ p.c.length ∧ (p.c.drop i).all (inC g.kinds.length) = p.c.all (inC g.kinds.length)) (fun i => p.c.length - i) 0 rfl ⟨Nat.zero_le _, rfl⟩ (fun _ h => h) ?_
      rintro i ⟨hi, hR⟩ cont hc
      (repeat (first | refine G.step ?_ | (refine G.jk ?_; intro _)))
      refine Gs.lenE hp.c (by omega) ?_
      (repeat (refine G.step ?_))
      refine G.ifd ?_ ?_ <;> intro hlt
      · have h1 : i < p.c.length := by omega
        have hd : (p.c.drop i).all (inC g.kinds.length) = (inC g.kinds.length p.c[i] && (p.c.drop (i + 1)).all (inC g.kinds.length)) := by
          rw [List.drop_eq_getElem_cons h1, List.all_cons]
        refine G.jnP (fun j => j = .bool (!inC g.kinds.length p.c[i])) ?_ ?_
        · rintro a rfl
          refine G.jk ?_; intro _
          refine G.ifb ?_ ?_ <;> intro hb
          · simp only [Bool.not_eq_true'] at hb
            exact Gs.ret (by rw [← hR, hd, hb]; rfl)
          · simp only [Bool.not_eq_false'] at hb
            (repeat (refine G.add (by omega) ?_))
            refine Gs.go (hc (i + 1) ⟨by omega, ?_⟩ (by omega)) rfl
            rw [← hR, hd, hb]; rfl
        · intro K hK
          (repeat (first | refine Gs.dr ?_ | refine G.qkp ?_ | refine Gs.qkb ?_))
          refine Gs.qindexE hp.c h1 ?_
          intro b o hpp
          refine Gs.qloadE hpp ?_
          (repeat (refine G.qkp ?_))
          refine G.gddf ?_ ?_ <;> intro q1
          · exact hK _ (by unfold inC; rw [decide_eq_false (by omega)]; rfl)
          · (repeat (first | refine G.qkp ?_ | refine Gs.qkb ?_))
            refine Gs.qindexE hp.c h1 ?_
            intro b o hpp
            refine Gs.qloadE hpp ?_
            (repeat (first | refine G.qkp ?_ | refine Gs.qkb ?_))
            refine Gs.qlenF hg.k (by omega) ?_
            (repeat (first | refine G.qmul (by omega) ?_ | refine G.qkp ?_))
            refine hK _ ?_
            unfold inC
            rw [← decide_not]
            congr 1
            rw [decide_eq_decide]
            omega
      · refine Gs.ret ?_
        rw [← hR, List.drop_eq_nil_of_le (by omega)]
        rfl
  · intro K hK
    (repeat (first | refine Gs.dr ?_ | refine G.qkp ?_ | refine Gs.qkb ?_))
    refine Gs.qlenE hp.c (by omega) ?_
    (repeat (first | refine G.qkp ?_ | refine Gs.qkb ?_))
    refine G.gddf ?_ ?_ <;> intro q1
    · exact hK _ (by rw [← hA, decide_eq_false (by omega)]; rfl)
    · rw [decide_eq_true (show p.c.length = g.cells by omega), Bool.true_and] at hA
      (repeat (first | refine G.qkp ?_ | refine Gs.qkb ?_))
      refine Gs.callv0 (hands_ok g x p.a _ h hg hk hp.a hp.la) ?_
      (repeat (refine G.qkp ?_))
      refine G.gdbf ?_ ?_ <;> intro q2
      · simp only [Bool.not_eq_true'] at q2
        exact hK _ (by rw [← hA, q2]; rfl)
      · simp only [Bool.not_eq_false'] at q2
        rw [q2, Bool.true_and] at hA
        (repeat (first | refine G.qkp ?_ | refine Gs.qkb ?_))
        refine Gs.callv0 (hands_ok g x p.b _ h hg hk hp.b hp.lb) ?_
        (repeat (refine G.qkp ?_))
        refine G.gdbf ?_ ?_ <;> intro q3
        · simp only [Bool.not_eq_true'] at q3
          exact hK _ (by rw [← hA, q3]; rfl)
        · simp only [Bool.not_eq_false'] at q3
          rw [q3, Bool.true_and] at hA
          (repeat (first | refine G.qkp ?_ | refine Gs.qkb ?_))
          refine G.gddf ?_ ?_ <;> intro q4
          · exact hK _ (by rw [← hA, decide_eq_false (by omega)]; rfl)
          · (repeat (first | refine G.qkp ?_ | refine Gs.qkb ?_))
            refine G.qshl1 (by omega) ?_
            (repeat (refine G.qkp ?_))
            refine G.gddf ?_ ?_ <;> intro q5
            · exact hK _ (by rw [← hA, decide_eq_false (by omega)]; rfl)
            · rw [decide_eq_true (show 0 ≤ p.r ∧ p.r < 2 ^ g.rights by omega), Bool.true_and] at hA
              (repeat (first | refine G.qkp ?_ | refine Gs.qkb ?_))
              refine G.gddf ?_ ?_ <;> intro q6
              · exact hK _ (by rw [← hA, decide_eq_false (by omega)]; rfl)
              · (repeat (first | refine G.qkp ?_ | refine Gs.qkb ?_))
                refine hK _ ?_
                rw [← hA, ← decide_not]
                congr 1
                rw [decide_eq_decide]
                omega
theorem count_step {n : Int} {K : Nat} (h0 : 0 < n) (h1 : n ≤ 2 * K) : ∃ k : Nat, (n - 1).tdiv 2 = k ∧ (n - 1) / 2 = k ∧ k < K := by
  refine ⟨((n - 1) / 2).toNat, ?_, ?_, ?_⟩
  · rw [Int.tdiv_eq_ediv_of_nonneg (by omega)]; omega
  · omega
  · omega
theorem pcount_ok (g : Gm) (x : GmH) (y : PosH) (p : Pt) (side : Int) (h : Hp) (hg : gmR h x g) (hk : g.kinds.length ≤ 1000000) (hp : posR h y p) (hall : ∀ n ∈ p.c, n ≤ 2 * g.kinds.length ∧ -1 ≤ n) : Ct Tryz.prog 33 [vGm g x, vPos y, I side] h (fun h' r => RdE h' r eInt 1 (counts p.c g.kinds.length side)) := by
  refine ct33 ?_
  intro w0
  unfold s33
  have hlc := hp.lc
  (repeat (first | refine G.step ?_ | (refine Gs.box ?_; intro _)))
  rename_i gb pb
  refine Gs.lenF hg.k (by omega) ?_
  refine Gs.make (enc := eInt) (a0 := 0) rfl (by omega) (by omega) (by omega) ?_
  intro v
  rw [Int.toNat_natCast, ← counts_nil _ side]
  (repeat (refine G.step ?_))
  refine Gs.lenE hp.c (by omega) ?_
  refine Gs.lp (β := Nat) (fun i => I i) (fun _ => h) (fun i => [.sl v 3 1 (fl eInt (counts (p.c.take i) g.kinds.length side))]) (fun i => i ≤ p.c.length) (fun i => p.c.length - i) 0 rfl (Nat.zero_le _) (fun w s => s.sub (by simp)) ?_
  intro i hi cont hc
  (repeat (first | refine G.step ?_ | (refine G.jk ?_; intro _)))
  refine G.ifd ?_ ?_ <;> intro hlt
  · have h1 : i < p.c.length := by omega
    have hb := hall _ (List.getElem_mem h1)
    have htk : p.c.take (i + 1) = p.c.take i ++ [p.c[i]] := (List.take_append_getElem h1).symm
    refine G.jnk (fun _ S' => S' = St w0 h h [.sl v 3 1 (fl eInt (counts (p.c.take (i + 1)) g.kinds.length side))]) ?_ ?_
    · rintro a _ rfl
      refine G.jk ?_; intro _
      (repeat (refine G.add (by omega) ?_))
      exact Gs.go (hc (i + 1) (by omega) (by omega)) rfl
    · intro k' hk'
      refine Gs.indexE hp.c h1 ?_
      intro b o hpp
      refine Gs.loadE hpp ?_
      refine G.jnP (fun j => j = .bool (decide (0 < p.c[i] ∧ (p.c[i] - 1) % 2 = side))) ?_ ?_
      · rintro a rfl
        refine G.jk ?_; intro _
        refine G.ifd ?_ ?_ <;> intro hq
        · obtain ⟨q0, q1⟩ := hq
          obtain ⟨k, k1, k2, k3⟩ := count_step q0 hb.1
          have hkl : k < (counts (p.c.take i) g.kinds.length side).length := by rw [counts_len]; exact k3
          refine G.sub (by omega) ?_
          refine G.quo (by omega) (by omega) ?_
          rw [k1]
          refine Gs.oindex (enc := eInt) (l := counts (p.c.take i) g.kinds.length side) hkl ?_
          intro b2 o2 hp2
          refine Gs.oloadE hp2 ?_
          have hbd : (counts (p.c.take i) g.kinds.length side)[k] ≤ p.c.length := by
            rw [counts_get]
            have := List.length_filter_le (manB side k) (p.c.take i)
            rw [List.length_take] at this
            omega
          have hb0 : 0 ≤ (counts (p.c.take i) g.kinds.length side)[k] := by rw [counts_get]; omega
          refine G.add (by omega) ?_
          refine Gs.setE (enc := eInt) (l := counts (p.c.take i) g.kinds.length side) (a := (counts (p.c.take i) g.kinds.length side)[k] + 1) (i := k) hkl ?_
          intro _
          refine hk' _ _ ?_
          rw [htk, counts_yes _ _ _ _ k q0 q1 k2 hkl]
        · refine hk' _ _ ?_
          rw [htk, counts_no _ _ _ _ hq]
      · intro K hK
        (repeat (refine G.step ?_))
        refine G.gddt ?_ ?_ <;> intro q0
        · (repeat (first | refine G.sub (by omega) ?_ | refine G.rem (by omega) ?_ | refine G.step ?_))
          rw [Int.tmod_eq_emod_of_nonneg (by omega)]
          exact hK _ (by congr 1; rw [decide_eq_decide]; omega)
        · exact hK _ (by rw [decide_eq_false (by omega)])
  · have : i = p.c.length := by omega
    subst this
    rw [List.take_length]
    refine Gs.freezeE (v := v) (enc := eInt) (l := counts p.c g.kinds.length side) (by decide) ?_
    intro h' hle hr
    exact Gs.ret hr
theorem rpcount_ok (g : Gm) (x : GmH) (y : PosH) (p : Pt) (side : Int) (h : Hp) (hg : gmR h x g) (hk : g.kinds.length ≤ 1000000) (hp : posR h y p) (hall : ∀ n ∈ p.c, n ≤ 2 * g.kinds.length ∧ -1 ≤ n) : Ct Tryz.prog 34 [vGm g x, vPos y, I side] h (fun h' r => RdE h' r eInt 1 (counts p.c g.kinds.length side)) := by
  refine ct34 ?_
  intro w0
  unfold s34
  have hlc := hp.lc
  (repeat (first | refine G.step ?_ | (refine Gs.box ?_; intro _)))
  rename_i gb pb
  refine Gs.lenF hg.k (by omega) ?_
  refine Gs.make (enc := eInt) (a0 := 0) rfl (by omega) (by omega) (by omega) ?_
  intro v
  rw [Int.toNat_natCast, ← counts_nil _ side]
  refine Gs.lp (β := Nat) (fun i => I i) (fun _ => h) (fun i => [.sl v 3 1 (fl eInt (counts (p.c.take i) g.kinds.length side)), .blk pb [slv y.1, slv y.2.1, slv y.2.2.1, I y.2.2.2.1, I y.2.2.2.2] 44]) (fun i => i ≤ p.c.length) (fun i => p.c.length - i) 0 rfl (Nat.zero_le _) (fun w s => s.sub (by simp)) ?_
  intro i hi cont hc
  (repeat (first | refine G.step ?_ | (refine G.jk ?_; intro _)))
  refine Gs.lenE hp.c (by omega) ?_
  (repeat (refine G.step ?_))
  refine G.ifd ?_ ?_ <;> intro hlt
  · have h1 : i < p.c.length := by omega
    have hb := hall _ (List.getElem_mem h1)
    have htk : p.c.take (i + 1) = p.c.take i ++ [p.c[i]] := (List.take_append_getElem h1).symm
    refine G.jnk (fun _ S' => S' = St w0 h h [.sl v 3 1 (fl eInt (counts (p.c.take (i + 1)) g.kinds.length side)), .blk pb [slv y.1, slv y.2.1, slv y.2.2.1, I y.2.2.2.1, I y.2.2.2.2] 44]) ?_ ?_
    · rintro a _ rfl
      refine G.jk ?_; intro _
      (repeat (refine G.add (by omega) ?_))
      exact Gs.go (hc (i + 1) (by omega) (by omega)) rfl
    · intro k' hk'
      refine G.jnP (fun j => j = .bool (decide (0 < p.c[i] ∧ (p.c[i] - 1) % 2 = side))) ?_ ?_
      · rintro a rfl
        refine G.jk ?_; intro _
        refine G.ifd ?_ ?_ <;> intro hq
        · obtain ⟨q0, q1⟩ := hq
          obtain ⟨k, k1, k2, k3⟩ := count_step q0 hb.1
          have hkl : k < (counts (p.c.take i) g.kinds.length side).length := by rw [counts_len]; exact k3
          (repeat (refine G.step ?_))
          refine Gs.indexE hp.c h1 ?_
          intro b o hpp
          refine Gs.loadE hpp ?_
          refine G.sub (by omega) ?_
          refine G.quo (by omega) (by omega) ?_
          rw [k1]
          refine Gs.oindex (enc := eInt) (l := counts (p.c.take i) g.kinds.length side) hkl ?_
          intro b2 o2 hp2
          refine Gs.oloadE hp2 ?_
          have hbd : (counts (p.c.take i) g.kinds.length side)[k] ≤ p.c.length := by
            rw [counts_get]
            have := List.length_filter_le (manB side k) (p.c.take i)
            rw [List.length_take] at this
            omega
          have hb0 : 0 ≤ (counts (p.c.take i) g.kinds.length side)[k] := by rw [counts_get]; omega
          refine G.add (by omega) ?_
          refine Gs.setE (enc := eInt) (l := counts (p.c.take i) g.kinds.length side) (a := (counts (p.c.take i) g.kinds.length side)[k] + 1) (i := k) hkl ?_
          intro _
          refine hk' _ _ ?_
          rw [htk, counts_yes _ _ _ _ k q0 q1 k2 hkl]
        · refine hk' _ _ ?_
          rw [htk, counts_no _ _ _ _ hq]
      · intro K hK
        (repeat (refine G.step ?_))
        refine Gs.indexE hp.c h1 ?_
        intro b o hpp
        refine Gs.loadE hpp ?_
        (repeat (refine G.step ?_))
        refine G.gddt ?_ ?_ <;> intro q0
        · (repeat (refine G.step ?_))
          refine Gs.indexE hp.c h1 ?_
          intro b o hpp
          refine Gs.loadE hpp ?_
          (repeat (first | refine G.sub (by omega) ?_ | refine G.rem (by omega) ?_ | refine G.step ?_))
          rw [Int.tmod_eq_emod_of_nonneg (by omega)]
          exact hK _ (by congr 1; rw [decide_eq_decide]; omega)
        · exact hK _ (by rw [decide_eq_false (by omega)])
  · have : i = p.c.length := by omega
    subst this
    rw [List.take_length]
    refine Gs.freezeE (v := v) (enc := eInt) (l := counts p.c g.kinds.length side) (by decide) ?_
    intro h' hle hr
    exact Gs.ret hr
end Go.Proofs.YtcmokdokcghooaaGreatDoor
end

section
set_option linter.unusedVariables false
set_option maxHeartbeats 4000000
namespace Go.Proofs.YtcmokdokcghooaaGreatDoor
open Go Go.Sk Go.RowKit
variable {M : Go.Sk.Mode} {w0 : World} {h0 h : Hp} {L R R' : List Itm} {K : Value → WP}
instance tpB : TPtr Tryz.prog 114 116 2 := ⟨by kernel_rfl⟩
theorem run_noesc (x : Value) (w : World) : (vCall (.func (.func 128) #[] ⟨[]⟩) [x]).run Tryz.prog w = .ok (.value x) w := by
  have := run_callFunc_extern (P := Tryz.prog) (w := w) Tryz.func128 (by kernel_rfl) (by kernel_rfl) (by kernel_rfl) (e := Extern.AbiNoEscape.same) (by kernel_rfl) (args := #[x])
  rw [Lib.run_noEscape] at this
  unfold vCall Deferred.ofValue
  simp only [pure_bind]
  exact this
instance Yd.noesc {S : WP} {x : Value} : Yd Tryz.prog S (vCall (.func (.func 128) #[] ⟨[]⟩) [x]) x := ⟨fun w _ => run_noesc x w⟩
def BldP (b : Nat) (p : Value) : Prop := p = .pointer none ∨ p = ptr b 0
theorem cc_call {b : Nat} {p v : Value} {c : List Value} [hcv : Cells v [v]] [hfv : Flat [v]] (hp : BldP b p) [htk : TakeB L b [p, v] 116 R] (hk : Gs w0 h0 h (.blk b [ptr b 0, v] 116 :: R) (K (.tuple #[]))) : Gs w0 h0 h L (Do Tryz.prog (vCall (.func (.func 93) #[] ⟨[]⟩) [ptr b 0]) K) := by
  refine Gs.perm htk.perm ?_
  refine in93 ?_
  unfold s93
  rcases hp with rfl | rfl
  · refine G.step ?_
    refine G.step ?_
    refine G.step ?_
    refine G.step ?_
    refine G.ift ?_
    refine Gs.toU (cs := [.pointer none, v]) (by kernel_rfl) rfl ?_
    refine G.step ?_
    refine Gs.ofU (cs := [.pointer none, v]) (by kernel_rfl) (by kernel_rfl) ?_
    refine G.step ?_
    refine G.step ?_
    refine Gs.store ?_
    exact hk
  · refine G.step ?_
    refine G.step ?_
    refine G.step ?_
    refine G.step ?_
    refine G.iff ?_
    refine G.step ?_
    refine G.step ?_
    refine G.step ?_
    refine G.step ?_
    refine G.iff ?_
    exact hk
/-- A builder: its block, its buffer. -/
theorem wbyte_call {b : Nat} {p : Value} {q : SlH} {l : List UInt8} (c : UInt8) (hp : BldP b p) (hv : Hd0 (slv q)) [htk : TakeB L b [p, slv q] 116 R] [hts : TakeS R (slv q) 5 1 (fl eByte l) R'] (hl : l.length ≤ 1000000)
    (hk : ∀ q' : SlH, Hd0 (slv q') → Gs w0 h0 h (.blk b [ptr b 0, slv q'] 116 :: .sl (slv q') 5 1 (fl eByte (l ++ [c])) :: R') (K .nilIface)) : Gs w0 h0 h L (Do Tryz.prog (vCall (.func (.func 65) #[] ⟨[]⟩) [ptr b 0, .int .u8 c.toNat]) K) := by
  refine Gs.perm (htk.perm.trans ((hts.perm.cons _))) ?_
  refine in65 ?_
  unfold s65
  refine cc_call (c := []) hp ?_
  refine G.step ?_
  refine G.step ?_
  refine G.step ?_
  refine Gs.buildSlice (by decide) ?_
  intro tb
  haveI : SrcG Tryz.prog (St w0 h0 h (.sl (.slice (some ⟨tb, 0, none⟩) 1 1) 5 1 [.int .u8 c.toNat] :: .blk b [ptr b 0, slv q] 116 :: .sl (slv q) 5 1 (fl eByte l) :: R')) 1 22 (.slice (some ⟨tb, 0, none⟩) 1 1) (fl eByte [c]) := SrcG.ofOwn (e2 := 5) (by simp [fl, eByte]) (by decide)
  refine Gs.appendB (by rw [fl_len, fl_len]; simp; omega) (by rw [fl_len, fl_len]; simp; omega) ?_
  intro v' hv'
  have hd := hv' hv
  have : ∃ q' : SlH, v' = slv q' := by
    rcases hd with rfl | ⟨b', n', c', rfl, _⟩
    · exact ⟨(none, 0, 0), rfl⟩
    · exact ⟨(some ⟨b', 0, none⟩, n', c'), rfl⟩
  obtain ⟨q', rfl⟩ := this
  rw [← fl_append]
  refine G.step ?_
  refine G.step ?_
  refine Gs.store ?_
  exact Gs.sel (hk q' hd)
theorem wstr_call {b : Nat} {p : Value} {q : SlH} {l : List UInt8} (s : List UInt8) (hp : BldP b p) (hv : Hd0 (slv q)) [htk : TakeB L b [p, slv q] 116 R] [hts : TakeS R (slv q) 5 1 (fl eByte l) R'] (hl : l.length ≤ 100000000) (hs : s.length ≤ 100000000)
    (hk : ∀ q' : SlH, Hd0 (slv q') → Gs w0 h0 h (.blk b [ptr b 0, slv q'] 116 :: .sl (slv q') 5 1 (fl eByte (l ++ s)) :: R') (K (.tuple #[I s.length, .nilIface]))) : Gs w0 h0 h L (Do Tryz.prog (vCall (.func (.func 95) #[] ⟨[]⟩) [ptr b 0, Str s]) K) := by
  refine Gs.perm (htk.perm.trans ((hts.perm.cons _))) ?_
  refine in95 ?_
  unfold s95
  refine cc_call (c := []) hp ?_
  refine G.step ?_
  refine G.step ?_
  refine G.step ?_
  haveI : SrcG Tryz.prog (St w0 h0 h (.blk b [ptr b 0, slv q] 116 :: .sl (slv q) 5 1 (fl eByte l) :: R')) 1 9 (Str s) (fl eByte s) := SrcG.str
  refine Gs.appendB (by rw [fl_len, fl_len]; simp; omega) (by rw [fl_len, fl_len]; simp; omega) ?_
  intro v' hv'
  have hd := hv' hv
  have : ∃ q' : SlH, v' = slv q' := by
    rcases hd with rfl | ⟨b', n', c', rfl, _⟩
    · exact ⟨(none, 0, 0), rfl⟩
    · exact ⟨(some ⟨b', 0, none⟩, n', c'), rfl⟩
  obtain ⟨q', rfl⟩ := this
  rw [← fl_append]
  refine G.step ?_
  refine G.step ?_
  refine Gs.store ?_
  refine G.step ?_
  exact Gs.sel (hk q' hd)
theorem bstr_call {b : Nat} {p : Value} {q : SlH} {l : List UInt8} (hv : Hd0 (slv q)) [htk : TakeB L b [p, slv q] 116 R] [hts : TakeS R (slv q) 5 1 (fl eByte l) R'] (hl : l.length ≤ 9223372036854775807)
    (hk : Gs w0 h0 h R' (K (Str l))) : Gs w0 h0 h L (Do Tryz.prog (vCall (.func (.func 68) #[] ⟨[]⟩) [ptr b 0]) K) := by
  refine Gs.perm (htk.perm.trans ((hts.perm.cons _))) ?_
  refine in68 ?_
  unfold s68
  refine Gs.dr ?_
  refine G.qkp ?_
  refine G.qkp ?_
  refine Gs.qkb ?_
  refine G.qkp ?_
  refine G.qkp ?_
  refine Gs.qkb ?_
  refine Gs.qolen (enc := eByte) (l := l) hl ?_
  refine G.usd hv ?_
  intro u hu
  refine G.withT ?_
  refine Gs.withb ?_
  refine G.withT ?_
  refine G.withT ?_
  refine Gs.ustr hu (by kernel_rfl) (by kernel_rfl) hl ?_
  exact G.mono hk (fun w s => s.sub (List.sublist_cons_self _ _))
end Go.Proofs.YtcmokdokcghooaaGreatDoor
end

section
set_option linter.unusedVariables false
set_option maxHeartbeats 4000000
namespace Go.Proofs.YtcmokdokcghooaaGreatDoor
open Go Go.Sk Go.Pr Go.Ps Go.RowKit
variable {w0 : World} {h0 h : Hp} {L : List Itm} {K : Value → WP}
theorem grow_call (n : Nat) (hn : n ≤ 10000000) (hk : ∀ v, Gs w0 h0 h (.sl v 3 1 (fl eInt []) :: L) (K v)) : Gs w0 h0 h L (Do Tryz.prog (vCall (.func (.func 92) #[] ⟨[]⟩) [.slice none 0 0, I n]) K) := by
  refine in92 ?_
  unfold s92
  refine G.jn ?_
  (repeat (first | refine G.sub (by omega) ?_ | refine G.step ?_ | refine G.iff ?_ | (refine G.jk ?_; intro _)))
  simp only [Int.sub_zero]
  refine G.ifd ?_ ?_ <;> intro hp
  · (repeat (refine G.step ?_))
    refine Gs.appendZ (enc := eInt) (a0 := 0) rfl (by omega) (by omega) (by omega) ?_
    intro v'
    (repeat (refine G.step ?_))
    refine Gs.cutO (enc := eInt) (l := List.replicate n 0) (lo := none) (hi := some 0) (by simp [cutLo]) (by simp [cutHi]) (fun i h => (by cases h)) (fun i h => by cases h; decide) ?_
    intro v''
    exact hk v''
  · exact Gs.nilsl 3 1 (hk _)
theorem concat_ok (a b c d : SlH) (la lb lc ld : List Int) (v : Value) (h : Hp) (hv : RdE h v eSlH 1 [a, b, c, d]) (ha : RdE h (slv a) eInt 1 la) (hb : RdE h (slv b) eInt 1 lb) (hc : RdE h (slv c) eInt 1 lc) (hd : RdE h (slv d) eInt 1 ld) (hs : la.length ≤ 1100000 ∧ lb.length ≤ 1100000 ∧ lc.length ≤ 1100000 ∧ ld.length ≤ 1100000) :
    Ct Tryz.prog 61 [v] h (fun h' r => RdE h' r eInt 1 (la ++ lb ++ lc ++ ld)) := by
  refine ct61 ?_
  intro w0
  unfold s61
  have hall : All2 (intsR h) [a, b, c, d] [la, lb, lc, ld] := .cons ha (.cons hb (.cons hc (.cons hd .nil)))
  have hsz : ∀ l ∈ [la, lb, lc, ld], l.length ≤ 1100000 := by
    intro l hl
    simp only [List.mem_cons, List.not_mem_nil, or_false] at hl
    rcases hl with rfl | rfl | rfl | rfl <;> omega
  have hout : la ++ lb ++ lc ++ ld = [la, lb, lc, ld].flatten := by simp
  rw [hout]
  have hl4 : [a, b, c, d].length = 4 := rfl
  have hm4 : [la, lb, lc, ld].length = 4 := rfl
  generalize [a, b, c, d] = hs' at *
  generalize [la, lb, lc, ld] = ls at *
  have htot : ∀ i, i ≤ 4 → (ls.take i).flatten.length ≤ i * 1100000 := by
    intro i
    induction i with
    | zero => intro _; simp
    | succ i ih =>
      intro hi
      have hi' : i < ls.length := by omega
      rw [← List.take_append_getElem hi', List.flatten_append, List.length_append]
      have := hsz _ (List.getElem_mem hi')
      have := ih (by omega)
      rw [show [ls[i]].flatten = ls[i] by simp]
      omega
  refine Gs.lenE hv (by omega) ?_
  refine Gs.lp (β := Nat) (fun i => (I (ls.take i).flatten.length, I i)) (fun _ => h) (fun _ => []) (fun i => i ≤ 4) (fun i => 4 - i) 0 rfl (Nat.zero_le _) (fun _ h => h) ?_
  intro i hi cont hc
  have hb1 := htot i hi
  (repeat (first | refine G.step ?_ | (refine G.jk ?_; intro _)))
  refine G.ifd ?_ ?_ <;> intro hlt
  · have h1 : i < hs'.length := by omega
    have h2 : i < ls.length := by omega
    have hx := hall.get i h1 h2
    have hbi := hsz _ (List.getElem_mem h2)
    have hsn : (ls.take (i + 1)).flatten = (ls.take i).flatten ++ ls[i] := by rw [← List.take_append_getElem h2, List.flatten_append]; simp
    refine G.jnP (fun j => j = I (ls.take (i + 1)).flatten.length) ?_ ?_
    · rintro a rfl
      refine G.jk ?_; intro _
      (repeat (refine G.add (by omega) ?_))
      exact Gs.go (hc (i + 1) (by omega) (by omega)) rfl
    · intro K hK
      refine Gs.indexE hv h1 ?_
      intro b o hp
      refine Gs.loadE hp ?_
      refine Gs.lenE hx (by omega) ?_
      (repeat (first | refine G.add (by omega) ?_ | refine G.step ?_ | refine G.iff ?_))
      exact hK _ (by rw [hsn, List.length_append]; congr 1)
  · have hi4 : i = 4 := by omega
    subst hi4
    refine grow_call _ (by omega) ?_
    intro v1
    refine Gs.lenE hv (by omega) ?_
    refine Gs.lp (β := Nat × Value) (fun g => (g.2, I g.1)) (fun _ => h) (fun g => [.sl g.2 3 1 (fl eInt (ls.take g.1).flatten)]) (fun g => g.1 ≤ 4) (fun g => 4 - g.1) (0, v1) rfl (Nat.zero_le _) (fun _ h => h) ?_
    rintro ⟨i, v2⟩ hi cont hc
    dsimp only at *
    have hb1 := htot i hi
    (repeat (first | refine G.step ?_ | (refine G.jk ?_; intro _)))
    refine G.ifd ?_ ?_ <;> intro hlt
    · have h1 : i < hs'.length := by omega
      have h2 : i < ls.length := by omega
      have hx := hall.get i h1 h2
      have hbi := hsz _ (List.getElem_mem h2)
      have hsn : (ls.take (i + 1)).flatten = (ls.take i).flatten ++ ls[i] := by rw [← List.take_append_getElem h2, List.flatten_append]; simp
      refine Gs.indexE hv h1 ?_
      intro b o hp
      refine Gs.loadE hp ?_
      refine Gs.appendR (enc := eInt) (l := (ls.take i).flatten) (m := ls[i]) hx (by omega) (by omega) ?_
      intro v3
      (repeat (refine G.add (by omega) ?_))
      rw [← hsn]
      exact Gs.go (hc (i + 1, v3) (by dsimp only; omega) (by dsimp only; omega)) rfl
    · have hi4 : i = 4 := by omega
      subst hi4
      rw [show ls.take 4 = ls from List.take_of_length_le (by omega)]
      refine Gs.freezeE (v := v2) (enc := eInt) (l := ls.flatten) (by decide) ?_
      intro h' hle hr
      exact Gs.ret hr
theorem numsP_len (p : Pt) : (numsP p).length = p.c.length + p.a.length + p.b.length + 2 := by simp [numsP]; omega
theorem key_ok (y : PosH) (p : Pt) (h : Hp) (hp : posR h y p) (hs : smallP p) : Ct Tryz.prog 26 [vPos y] h (fun _ r => r = Str (keyP p)) := by
  obtain ⟨ya, yb, yc, yr, ys⟩ := y
  obtain rfl : yr = p.r := hp.r
  obtain rfl : ys = p.s := hp.s
  change Ct Tryz.prog 26 [.agg #[slv ya, slv yb, slv yc, I p.r, I p.s]] h _
  refine ct26 ?_
  intro w0
  unfold s26
  obtain ⟨s1, s2, s3⟩ := hs
  (repeat (first | refine G.step ?_ | (refine Gs.box ?_; intro _)))
  refine Gs.buildSlice (by decide) ?_
  intro b1
  refine Gs.freezeE (v := .slice (some ⟨b1, 0, none⟩) 2 2) (enc := eInt) (l := [p.r, p.s]) (by decide) ?_
  intro h1 hle1 r1
  skip
  refine Gs.buildSlice (by decide) ?_
  intro b2
  refine Gs.freezeE (v := .slice (some ⟨b2, 0, none⟩) 4 4) (enc := eSlH) (l := [ya, yb, yc, (some ⟨b1, 0, none⟩, 2, 2)]) (by decide) ?_
  intro h2 hle2 r2
  have hle := hle1.trans hle2
  refine Gs.call0 (concat_ok ya yb yc (some ⟨b1, 0, none⟩, 2, 2) p.c p.a p.b [p.r, p.s] _ h2 r2 (hp.c.mono hle) (hp.a.mono hle) (hp.b.mono hle) (r1.mono hle2) ⟨s1, s2, s3, by simp⟩) ?_
  intro v h3 hle3 r3
  have hl := numsP_len p
  refine Gs.lenE r3 (by simp; omega) ?_
  have hn : p.c ++ p.a ++ p.b ++ [p.r, p.s] = numsP p := rfl
  rw [hn] at *
  refine Gs.nilsl 5 1 ?_
  refine Gs.lp (β := Nat × Value) (fun g => (g.2, I g.1)) (fun _ => h3) (fun g => [.sl g.2 5 1 (fl eByte (((numsP p).take g.1).map byt))]) (fun g => g.1 ≤ (numsP p).length) (fun g => (numsP p).length - g.1) (0, .slice none 0 0) rfl (Nat.zero_le _) (fun w s => s.sub (by simp [fl])) ?_
  rintro ⟨i, v2⟩ hi cont hc
  dsimp only at *
  (repeat (first | refine G.step ?_ | (refine G.jk ?_; intro _)))
  refine G.ifd ?_ ?_ <;> intro hlt
  · have h1 : i < (numsP p).length := by omega
    have hsn : ((numsP p).take (i + 1)).map byt = ((numsP p).take i).map byt ++ [byt (numsP p)[i]] := by rw [← List.take_append_getElem h1, List.map_append]; rfl
    refine Gs.indexE r3 h1 ?_
    intro b o hpp
    refine Gs.loadE hpp ?_
    refine G.step ?_
    rw [wrap_byt]
    refine Gs.push (enc := eByte) (l := ((numsP p).take i).map byt) (a := byt (numsP p)[i]) (by decide) (by decide) (by simp; omega) (by simp; omega) ?_
    intro _ v3
    (repeat (refine G.add (by omega) ?_))
    rw [← hsn]
    exact Gs.go (hc (i + 1, v3) (by dsimp only; omega) (by dsimp only; omega)) rfl
  · have hi4 : i = (numsP p).length := by omega
    rw [hi4, List.take_length]
    refine Gs.sbytesE (l := keyP p) (fun e => by have := congrArg List.length e; unfold keyP at this; rw [List.length_map, List.length_nil] at this; omega) ?_
    exact Gs.ret rfl
theorem numbers_ok (y : PosH) (p : Pt) (h : Hp) (hp : posR h y p) (hs : smallP p) : Ct Tryz.prog 62 [vPos y] h (fun h' r => RdE h' r eInt 1 (numsP p)) := by
  obtain ⟨ya, yb, yc, yr, ys⟩ := y
  obtain rfl : yr = p.r := hp.r
  obtain rfl : ys = p.s := hp.s
  change Ct Tryz.prog 62 [.agg #[slv ya, slv yb, slv yc, I p.r, I p.s]] h _
  refine ct62 ?_
  intro w0
  unfold s62
  obtain ⟨s1, s2, s3⟩ := hs
  (repeat (refine Gs.box ?_; intro _))
  refine Gs.buildSlice (by decide) ?_
  intro b1
  (repeat (refine G.step ?_))
  refine Gs.appendR (enc := eInt) (l := []) (m := p.c) (v := .slice (some ⟨b1, 0, none⟩) 0 0) hp.c (by simp; omega) (by simp; omega) ?_
  intro v1
  (repeat (refine G.step ?_))
  refine Gs.appendR (enc := eInt) (l := [] ++ p.c) (m := p.a) hp.a (by simp; omega) (by simp; omega) ?_
  intro v2
  (repeat (refine G.step ?_))
  refine Gs.appendR (enc := eInt) (l := [] ++ p.c ++ p.a) (m := p.b) hp.b (by simp; omega) (by simp; omega) ?_
  intro v3
  (repeat (refine G.step ?_))
  refine Gs.buildSlice (by decide) ?_
  intro b2
  refine Gs.appendO (enc := eInt) (l := [] ++ p.c ++ p.a ++ p.b) (m := [p.r, p.s]) (e2 := 3) (by simp [fl]) (by simp; omega) (by simp; omega) ?_
  intro v4
  refine Gs.freezeE (v := v4) (enc := eInt) (l := [] ++ p.c ++ p.a ++ p.b ++ [p.r, p.s]) (by decide) ?_
  intro h' hle hr
  exact Gs.ret hr
theorem rkey_ok (y : PosH) (p : Pt) (h : Hp) (hp : posR h y p) (hs : smallP p) : Ct Tryz.prog 27 [vPos y] h (fun _ r => r = Str (keyP p)) := by
  refine ct27 ?_
  intro w0
  unfold s27
  have hl := numsP_len p
  obtain ⟨s1, s2, s3⟩ := hs
  (repeat (first | refine G.step ?_ | (refine Gs.box ?_; intro _)))
  refine Gs.call0 (numbers_ok y p h hp ⟨s1, s2, s3⟩) ?_
  intro v h3 hle3 r3
  refine Gs.buildSlice (by decide) ?_
  intro b1
  refine Gs.lp (β := Nat × Value) (fun g => (g.2, I g.1)) (fun _ => h3) (fun g => [.sl g.2 5 1 (fl eByte (((numsP p).take g.1).map byt))]) (fun g => g.1 ≤ (numsP p).length) (fun g => (numsP p).length - g.1) (0, .slice (some ⟨b1, 0, none⟩) 0 0) rfl (Nat.zero_le _) (fun w s => s.sub (by simp [fl])) ?_
  rintro ⟨i, v2⟩ hi cont hc
  dsimp only at *
  (repeat (refine G.jk ?_; intro _))
  refine Gs.lenE r3 (by omega) ?_
  (repeat (refine G.step ?_))
  refine G.ifd ?_ ?_ <;> intro hlt
  · have h1 : i < (numsP p).length := by omega
    have hsn : ((numsP p).take (i + 1)).map byt = ((numsP p).take i).map byt ++ [byt (numsP p)[i]] := by rw [← List.take_append_getElem h1, List.map_append]; rfl
    refine Gs.indexE r3 h1 ?_
    intro b o hpp
    refine Gs.loadE hpp ?_
    refine G.step ?_
    rw [wrap_byt]
    refine Gs.push (enc := eByte) (l := ((numsP p).take i).map byt) (a := byt (numsP p)[i]) (by decide) (by decide) (by simp; omega) (by simp; omega) ?_
    intro _ v3
    (repeat (refine G.add (by omega) ?_))
    rw [← hsn]
    exact Gs.go (hc (i + 1, v3) (by dsimp only; omega) (by dsimp only; omega)) rfl
  · have hi4 : i = (numsP p).length := by omega
    rw [hi4, List.take_length]
    refine Gs.sbytesE (l := keyP p) (fun e => by have := congrArg List.length e; unfold keyP at this; rw [List.length_map, List.length_nil] at this; omega) ?_
    exact Gs.ret rfl
end Go.Proofs.YtcmokdokcghooaaGreatDoor
end

