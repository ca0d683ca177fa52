/-
  Lemmas for the proof of the statement of this claim: a part of the road, no statement of its own. Conditions: those that each lemma names.
-/
import Derived.Test.YtgdochemlbjnlaaGreatVc
import Derived.Test.YtgdochemlbjnlaaGreatVm
import Derived.Test.YtgdochemlbjnlaaGreatKb
section
/-
  Fractions: validity, comparisons, floors.
-/
set_option linter.unusedVariables false
set_option linter.unusedSimpArgs false
set_option linter.unusedSectionVars false
set_option maxHeartbeats 8000000
namespace Go.Proofs.YtgdochemlbjnlaaGreat.Q
open Go Go.Sk Go.Dy
variable {M : Go.Sk.Mode}
abbrev Fr2 (n e : Int) : Value := .agg #[I n, I e]
abbrev Got (g : Int × Int × Int) : Value := .agg #[I g.1, I g.2.1, I g.2.2]
abbrev Two (g : Int × Int × Int) : Value := .tuple #[.agg #[I g.1, I g.2.1], I g.2.2]
theorem neg_ok (n e : Int) (h : Hp) (hn : -9223372036854775807 ≤ n) (hn' : n ≤ 9223372036854775807) : Ct Tryz.prog 77 [Fr2 n e] h (fun _ v => v = Fr2 (-n) e) := by
  refine ct77 ?_
  intro w0
  unfold s77
  (repeat (first | refine G.neg (by omega) ?_ | refine G.step ?_ | (refine Gs.box ?_; intro _) | (refine Gs.alloc ?_; intro _) | refine Gs.store ?_ | refine G.retc ?_))
  exact Gs.ret rfl
theorem rneg_ok (n e : Int) (h : Hp) (hn : -9223372036854775807 ≤ n) (hn' : n ≤ 9223372036854775807) : Ct Tryz.prog 90 [Fr2 n e] h (fun _ v => v = Fr2 (-n) e) := by
  refine ct90 ?_
  intro w0
  unfold s90
  (repeat (first | refine G.neg (by omega) ?_ | refine G.step ?_ | (refine Gs.box ?_; intro _) | (refine Gs.alloc ?_; intro _) | refine Gs.store ?_ | refine G.retc ?_))
  exact Gs.ret rfl
theorem power_ok : ∀ (n : Nat) (h : Hp), n ≤ 62 → Ct Tryz.prog 88 [I n] h (fun _ v => v = I (2 ^ n))
  | 0, h, hn => by
    refine ct88 ?_
    intro w0
    unfold s88
    ((repeat (first | refine G.step ?_ | refine G.ift ?_)); repeat (any_goals ((first | (refine G.ifd ?_ ?_ <;> intro _) | (refine G.ifb ?_ ?_ <;> intro _) | (refine G.gddt ?_ ?_ <;> intro _) | (refine G.gddf ?_ ?_ <;> intro _) | (refine G.gdbt ?_ ?_ <;> intro _) | (refine G.gdbf ?_ ?_ <;> intro _)) <;> (try (exfalso; omega; done)) <;> skip)))
    exact Gs.ret rfl
  | n + 1, h, hn => by
    refine ct88 ?_
    intro w0
    unfold s88
    ((repeat (first | refine G.sub (by omega) ?_ | refine G.step ?_ | refine G.iff ?_)); repeat (any_goals ((first | (refine G.ifd ?_ ?_ <;> intro _) | (refine G.ifb ?_ ?_ <;> intro _) | (refine G.gddt ?_ ?_ <;> intro _) | (refine G.gddf ?_ ?_ <;> intro _) | (refine G.gdbt ?_ ?_ <;> intro _) | (refine G.gdbf ?_ ?_ <;> intro _)) <;> (try (exfalso; omega; done)) <;> skip)))
    rw [show ((n + 1 : Nat) : Int) - 1 = n by omega]
    refine Gs.callv0 (power_ok n h (by omega)) ?_
    have h1 : (2 : Int) ^ n ≤ 2 ^ 61 := two_pow_le (by omega)
    have h2 : (0 : Int) < 2 ^ n := Int.pow_pos (by decide)
    have h3 : (2 : Int) ^ 61 = 2305843009213693952 := by decide
    refine G.mul (by omega) ?_
    exact Gs.ret (by rw [Int.pow_succ, Int.mul_comm])
theorem power_oki (n : Int) (h : Hp) (h0 : 0 ≤ n) (hn : n ≤ 62) : Ct Tryz.prog 88 [I n] h (fun _ v => v = I (2 ^ n.toNat)) := by
  obtain ⟨k, rfl⟩ := Int.eq_ofNat_of_zero_le h0
  exact power_ok k h (by omega)
theorem valid_ok (n e : Int) (h : Hp) : Ct Tryz.prog 39 [Fr2 n e] h (fun _ v => v = .bool (validB n e)) := by
  refine ct39 ?_
  intro w0
  unfold s39
  ((repeat (first | refine G.step ?_ | (refine Gs.box ?_; intro _))); repeat (any_goals ((first | (refine G.ifd ?_ ?_ <;> intro _) | (refine G.ifb ?_ ?_ <;> intro _) | (refine G.gddt ?_ ?_ <;> intro _) | (refine G.gddf ?_ ?_ <;> intro _) | (refine G.gdbt ?_ ?_ <;> intro _) | (refine G.gdbf ?_ ?_ <;> intro _)) <;> (try (exfalso; omega; done)) <;> (repeat (refine G.step ?_)))))
  case refine_1.refine_1.refine_1.refine_1.refine_2 =>
    refine G.land 1 (by decide) (by decide) ?_
    (repeat (refine G.step ?_))
    refine Gs.ret ?_
    unfold validB
    congr 1
    simp [*]
  all_goals
    refine Gs.ret ?_
    unfold validB
    congr 1
    simp [*]
theorem rvalid_ok (n e : Int) (h : Hp) : Ct Tryz.prog 41 [Fr2 n e] h (fun _ v => v = .bool (validB n e)) := by
  refine ct41 ?_
  intro w0
  unfold s41
  ((repeat (first | refine G.step ?_ | (refine Gs.box ?_; intro _) | refine G.jn ?_)); repeat (any_goals ((first | (refine G.ifd ?_ ?_ <;> intro _) | (refine G.ifb ?_ ?_ <;> intro _) | (refine G.gddt ?_ ?_ <;> intro _) | (refine G.gddf ?_ ?_ <;> intro _) | (refine G.gdbt ?_ ?_ <;> intro _) | (refine G.gdbf ?_ ?_ <;> intro _)) <;> (try (exfalso; omega; done)) <;> (repeat (first | refine G.rem (by omega) ?_ | refine G.step ?_ | refine G.ift ?_ | (refine G.jk ?_; intro _))))))
  all_goals
    refine Gs.ret ?_
    unfold validB
    refine congrArg Value.bool ?_
    first
      | (symm; rw [decide_eq_false_iff_not]; omega)
      | (symm; rw [decide_eq_true_iff]; omega)
      | (have := tmod2 n; rw [decide_eq_decide]; omega)
theorem whole_ok (n : Int) (e : Nat) (h : Hp) (he : e ≤ 30) (hn : -1099511627776 ≤ n) (hn' : n ≤ 1099511627776) : Ct Tryz.prog 79 [Fr2 n e] h (fun _ v => v = .tuple #[I (wh n e), I (rs n e)]) := by
  refine ct79 ?_
  intro w0
  unfold s79
  have hp := two_pow_pos e
  have hf := tdiv_floor n (2 ^ e) hp
  have hrb := rs_bd n e he
  have hwb := wh_bd n e 1099511627776 hn hn' (by decide)
  have hp30 : (2 : Int) ^ e ≤ 1073741824 := by have := two_pow_le he; simpa using this
  have hq := tdiv_in hp (a := n) ⟨by omega, by omega⟩
  have hr1 : n.tmod (2 ^ e) < 2 ^ e := Int.tmod_lt_of_pos n hp
  have hr2 : -(2 ^ e) < n.tmod (2 ^ e) := by
    have h4 := Int.tmod_lt_of_pos (-n) hp
    rw [Int.neg_tmod] at h4
    omega
  (repeat (first | refine G.step ?_ | (refine Gs.box ?_; intro _)))
  refine Gs.callv0 (power_ok e h (by omega)) ?_
  refine G.step ?_
  refine G.step ?_
  refine G.quo (by omega) (by omega) ?_
  refine G.step ?_
  refine G.step ?_
  refine G.rem (by omega) ?_
  refine G.jn ?_
  unfold wh at hwb
  unfold rs at hrb
  obtain ⟨hf1, hf2⟩ := hf
  ((repeat (refine G.step ?_)); repeat (any_goals ((first | (refine G.ifd ?_ ?_ <;> intro _) | (refine G.ifb ?_ ?_ <;> intro _) | (refine G.gddt ?_ ?_ <;> intro _) | (refine G.gddf ?_ ?_ <;> intro _) | (refine G.gdbt ?_ ?_ <;> intro _) | (refine G.gdbf ?_ ?_ <;> intro _)) <;> (try (exfalso; omega; done)) <;> (repeat (first | refine G.add (by omega) ?_ | refine G.sub (by omega) ?_ | refine G.step ?_ | (refine G.jk ?_; intro _))))))
  all_goals
    refine Gs.callv0 (power_oki (30 - e) h (by omega) (by omega)) ?_
    rw [show (30 - (e : Int)).toNat = 30 - e by omega]
    simp only [*, if_true, if_false] at hf1 hf2
    try rw [hf1, hf2]
    refine G.mul (by omega) ?_
    refine Gs.ret ?_
    unfold wh rs
    rfl
theorem rcompare_ok (n : Int) (e : Nat) (m : Int) (f : Nat) (h : Hp) (he : Valid n e) (hf : Valid m f) : Ct Tryz.prog 58 [Fr2 n e, Fr2 m f] h (fun _ v => v = I (cmpF n e m f)) := by
  obtain ⟨he, hn, hn', _⟩ := he
  obtain ⟨hf, hm, hm', _⟩ := hf
  refine ct58 ?_
  intro w0
  unfold s58
  (repeat (first | refine G.step ?_ | (refine Gs.box ?_; intro _)))
  refine Gs.callv0 (whole_ok n e h he hn hn') ?_
  (repeat (refine G.step ?_))
  refine Gs.callv0 (whole_ok m f h hf hm hm') ?_
  ((repeat (first | refine G.step ?_ | refine G.jn ?_)); repeat (any_goals ((first | (refine G.ifd ?_ ?_ <;> intro _) | (refine G.ifb ?_ ?_ <;> intro _) | (refine G.gddt ?_ ?_ <;> intro _) | (refine G.gddf ?_ ?_ <;> intro _) | (refine G.gdbt ?_ ?_ <;> intro _) | (refine G.gdbf ?_ ?_ <;> intro _)) <;> (try (exfalso; omega; done)) <;> (repeat (first | refine G.step ?_ | refine G.ift ?_ | refine G.iff ?_ | refine G.jn ?_ | (refine G.jk ?_; intro _))))))
  all_goals
    refine Gs.ret ?_
    unfold cmpF cmpI
    congr 1
    split <;> (try split) <;> (try split) <;> omega
theorem isNaN_ok (a : Int) (h : Hp) : Ct Tryz.prog 87 [I a] h (fun _ v => v = .bool false) := by
  refine ct87 ?_
  intro w0
  unfold s87
  (repeat (refine G.step ?_))
  exact Gs.ret (by simp)
theorem cmp_ok (a b : Int) (h : Hp) : Ct Tryz.prog 74 [I a, I b] h (fun _ v => v = I (cmpI a b)) := by
  refine ct74 ?_
  intro w0
  unfold s74
  refine Gs.callv0 (isNaN_ok a h) ?_
  refine Gs.callv0 (isNaN_ok b h) ?_
  ((repeat (first | refine G.step ?_ | refine G.iff ?_)); repeat (any_goals ((first | (refine G.ifd ?_ ?_ <;> intro _) | (refine G.ifb ?_ ?_ <;> intro _) | (refine G.gddt ?_ ?_ <;> intro _) | (refine G.gddf ?_ ?_ <;> intro _) | (refine G.gdbt ?_ ?_ <;> intro _) | (refine G.gdbf ?_ ?_ <;> intro _)) <;> (try (exfalso; omega; done)) <;> (repeat (refine G.step ?_)))))
  all_goals
    refine Gs.ret ?_
    unfold cmpI
    congr 1
    split <;> (try split) <;> omega
def orL : List Int → Int
  | [] => 0
  | a :: r => if a ≠ 0 then a else orL r
theorem or_ok (l : List Int) (v : Value) (h : Hp) (hl : l.length ≤ 1000) (hr : Rd h v 1 l.length (l.map I)) : Ct Tryz.prog 73 [v] h (fun _ r => r = I (orL l)) := by
  refine ct73 ?_
  intro w0
  unfold s73
  refine Gs.len hr (by omega) ?_
  refine Gs.lp (β := Nat) (fun k => I k) (fun _ => h) (fun _ => []) (fun k => k ≤ l.length ∧ orL (l.drop k) = orL l) (fun k => l.length - k) 0 rfl ⟨Nat.zero_le _, rfl⟩ (fun _ h => h) ?_
  rintro k ⟨hk, ho⟩ cont hc
  (repeat (first | refine G.step ?_ | (refine G.jk ?_; intro _)))
  refine G.ifd ?_ ?_ <;> intro hlt
  · have hlt : k < l.length := by omega
    refine Gs.index hr ⟨by omega, by omega⟩ ?_
    intro b o hp
    have hch : chunk (l.map I) 1 (k : Int).toNat = [I l[k]] := by
      unfold chunk
      rw [Int.toNat_natCast, Nat.mul_one, ← List.map_drop, List.drop_eq_getElem_cons hlt]; rfl
    rw [hch] at hp
    refine Gs.loadP1 hp ?_
    rw [List.drop_eq_getElem_cons hlt] at ho
    replace ho : (if l[k] ≠ 0 then l[k] else orL (l.drop (k + 1))) = orL l := ho
    ((repeat (refine G.step ?_)); repeat (any_goals ((first | (refine G.ifd ?_ ?_ <;> intro _) | (refine G.ifb ?_ ?_ <;> intro _) | (refine G.gddt ?_ ?_ <;> intro _) | (refine G.gddf ?_ ?_ <;> intro _) | (refine G.gdbt ?_ ?_ <;> intro _) | (refine G.gdbf ?_ ?_ <;> intro _)) <;> (try (exfalso; omega; done)) <;> (repeat (refine G.add (by omega) ?_)))))
    · refine Gs.ret ?_
      rw [← ho, if_pos (by assumption)]
    · refine Gs.go (hc (k + 1) ⟨by omega, ?_⟩ (by omega)) rfl
      rw [← ho, if_neg (by assumption)]
  · refine Gs.ret ?_
    rw [← ho, List.drop_eq_nil_of_le (by omega)]; rfl
theorem rest_ok (n : Int) (e : Nat) (h : Hp) (he : e ≤ 30) : Ct Tryz.prog 76 [Fr2 n e] h (fun _ v => v = I (rs n e)) := by
  refine ct76 ?_
  intro w0
  unfold s76
  have hp := two_pow_pos e
  have hrb := rs_bd n e he
  have hp30 : (2 : Int) ^ e ≤ 1073741824 := by have := two_pow_le he; simpa using this
  (repeat (first | (refine Gs.box ?_; intro _) | refine Gs.dr ?_ | refine G.qkp ?_ | refine Gs.qkb ?_))
  haveI := Yd.shl (P := Tryz.prog) (S := TrueC) (t := 3) (yk := .i64) (a := 1) (y := e) ⟨by omega, by omega⟩ (by rw [Int.toNat_natCast]; omega)
  refine G.qkp ?_
  rw [Int.toNat_natCast, Int.one_mul]
  refine G.qsub (by omega) ?_
  haveI := Yd.land (P := Tryz.prog) (S := TrueC) (t := 3) (a := n) (b := 2 ^ e - 1) e (by omega) rfl
  (repeat (first | refine G.qsub (by omega) ?_ | refine G.qkp ?_ | refine Gs.qkb ?_))
  have e1 : (30 - (e : Int)).toNat = 30 - e := by omega
  haveI := Yd.shl (P := Tryz.prog) (S := TrueC) (t := 3) (yk := .i64) (a := n % 2 ^ e) (y := 30 - e) ⟨by omega, by omega⟩ (by rw [e1]; unfold rs at hrb; omega)
  (repeat (refine G.qkp ?_))
  refine Gs.ret ?_
  rw [e1]; unfold rs; rfl
def flP (n : Int) (e x : Nat) : Int :=
  if x ≤ e then n / 2 ^ (e - x) else if 1099511627776 / 2 ^ (x - e) < n then 1099511627777 else if n < -(1099511627776 / 2 ^ (x - e)) then -1099511627778 else n * 2 ^ (x - e)
theorem floor_ok (n : Int) (e x : Nat) (h : Hp) (he : e ≤ 30) (hx : x ≤ 30) : Ct Tryz.prog 75 [Fr2 n e, I x] h (fun _ v => v = I (flP n e x)) := by
  refine ct75 ?_
  intro w0
  unfold s75
  (repeat (first | refine G.step ?_ | (refine Gs.box ?_; intro _)))
  refine G.ifd ?_ ?_ <;> intro hc
  · (repeat (first | refine G.sub (by omega) ?_ | refine G.shr (by omega) ?_ | refine G.step ?_))
    refine Gs.ret ?_
    unfold flP
    rw [if_pos (by omega), show ((e : Int) - x).toNat = e - x by omega]
  · (repeat (first | refine G.sub (by omega) ?_ | refine G.shr (by omega) ?_ | refine G.step ?_))
    have e1 : ((x : Int) - e).toNat = x - e := by omega
    have hp := two_pow_pos (x - e)
    have hq : 0 ≤ 1099511627776 / (2 : Int) ^ (x - e) ∧ 1099511627776 / (2 : Int) ^ (x - e) ≤ 1099511627776 := ⟨Int.ediv_nonneg (by decide) (Int.le_of_lt hp), Int.ediv_le_self _ (by decide)⟩
    have hm : 1099511627776 / (2 : Int) ^ (x - e) * 2 ^ (x - e) ≤ 1099511627776 := Int.ediv_mul_le _ (by omega)
    rw [e1]
    unfold flP
    rw [if_neg (by omega)]
    generalize hQ : 1099511627776 / (2 : Int) ^ (x - e) = q at *
    (skip; repeat (any_goals ((first | (refine G.ifd ?_ ?_ <;> intro _) | (refine G.ifb ?_ ?_ <;> intro _) | (refine G.gddt ?_ ?_ <;> intro _) | (refine G.gddf ?_ ?_ <;> intro _) | (refine G.gdbt ?_ ?_ <;> intro _) | (refine G.gdbf ?_ ?_ <;> intro _)) <;> (try (exfalso; omega; done)) <;> (repeat (first | refine G.neg (by omega) ?_ | refine G.step ?_)))))
    · exact Gs.ret (by rw [if_pos (by assumption)])
    · exact Gs.ret (by rw [if_neg (by assumption), if_pos (by assumption)])
    · have b1 : n * 2 ^ (x - e) ≤ q * 2 ^ (x - e) := Int.mul_le_mul_of_nonneg_right (by omega) (by omega)
      have b2 : -q * 2 ^ (x - e) ≤ n * 2 ^ (x - e) := Int.mul_le_mul_of_nonneg_right (by omega) (by omega)
      rw [Int.neg_mul] at b2
      refine G.shl (by omega) (by rw [e1]; omega) ?_
      exact Gs.ret (by rw [if_neg (by assumption), if_neg (by assumption), e1])
theorem floor0 (n : Int) (e : Nat) : flP n e 0 = wh n e := by unfold flP wh; rw [if_pos (Nat.zero_le _)]; rfl
theorem abs_ok (n : Int) (h : Hp) (hn : -9223372036854775807 ≤ n) (hn' : n ≤ 9223372036854775807) : Ct Tryz.prog 78 [I n] h (fun _ v => v = I (max n (-n))) := by
  refine ct78 ?_
  intro w0
  unfold s78
  (repeat (first | refine G.neg (by omega) ?_ | refine G.step ?_))
  exact Gs.ret rfl
theorem compare_ok (n : Int) (e : Nat) (m : Int) (f : Nat) (h : Hp) (he : Valid n e) (hf : Valid m f) : Ct Tryz.prog 54 [Fr2 n e, Fr2 m f] h (fun _ v => v = I (cmpF n e m f)) := by
  obtain ⟨he, hn, hn', _⟩ := he
  obtain ⟨hf, hm, hm', _⟩ := hf
  refine ct54 ?_
  intro w0
  unfold s54
  (repeat (first | (refine Gs.box ?_; intro _) | refine Gs.dr ?_ | refine Gs.qkb ?_ | refine G.jn ?_))
  refine G.or2 ?_ ?_
  all_goals
    (repeat (first | (refine Gs.alloc ?_; intro _) | refine Gs.store ?_ | refine Gs.dr ?_ | refine Gs.qkb ?_ | refine Gs.withb ?_ | (refine G.jk ?_; intro _)))
    refine Gs.callv0 (floor_ok n e 0 h he (by omega)) ?_
    (repeat (refine Gs.withb ?_))
    refine Gs.callv0 (floor_ok m f 0 h hf (by omega)) ?_
    (repeat (refine Gs.withb ?_))
    refine Gs.callv0 (cmp_ok _ _ h) ?_
    (repeat (refine Gs.withb ?_))
    refine Gs.callv0 (rest_ok n e h he) ?_
    (repeat (refine Gs.withb ?_))
    refine Gs.callv0 (rest_ok m f h hf) ?_
    refine Gs.callv0 (cmp_ok _ _ h) ?_
    refine Gs.buildSlice (by decide) ?_
    intro b
    refine Gs.freeze (v := .slice (some ⟨b, 0, none⟩) 2 2) ?_
    intro h' hle hr
    refine Gs.callv0 (or_ok [cmpI (flP n e 0) (flP m f 0), cmpI (rs n e) (rs m f)] _ h' (by simp) (hr 2 rfl (by decide))) ?_
    refine Gs.ret ?_
    rw [floor0, floor0]
    unfold cmpF
    simp [orL]
    split <;> simp_all
end Go.Proofs.YtgdochemlbjnlaaGreat.Q
end

section
/-
  Fractions: sums of the reference.
-/
set_option linter.unusedVariables false
set_option linter.unusedSimpArgs false
set_option linter.unusedSectionVars false
set_option maxHeartbeats 8000000
namespace Go.Proofs.YtgdochemlbjnlaaGreat.Q
open Go Go.Sk Go.Dy
variable {M : Go.Sk.Mode}
def rflP (n : Int) (e x : Nat) : Int :=
  if 1099511627776 / 2 ^ x + 1 < wh n e then 1099511627777 else if wh n e < -(1099511627776 / 2 ^ x) - 2 then -1099511627778 else wh n e * 2 ^ x + rs n e / 2 ^ (30 - x)
theorem ntdiv (b : Int) (hb : 0 < b) : (-1099511627776 : Int).tdiv b = -(1099511627776 / b) := by
  rw [Int.neg_tdiv, Int.tdiv_eq_ediv_of_nonneg (by decide)]
def oddP (l h : Int) : Int :=
  if l ≤ 1 ∧ 1 ≤ h then 1 else if l ≤ -1 ∧ -1 ≤ h then -1 else if 0 < l ∧ l % 2 ≠ 0 then l else if 0 < l ∧ l < h then l + 1 else if h < 0 ∧ h % 2 ≠ 0 then h else if h < 0 ∧ l < h then h - 1 else 0
end Go.Proofs.YtgdochemlbjnlaaGreat.Q
end

section
/-
  Fractions: floors as divisions.
-/
set_option linter.unusedVariables false
set_option linter.unusedSimpArgs false
set_option linter.unusedSectionVars false
set_option maxHeartbeats 8000000
namespace Go.Proofs.YtgdochemlbjnlaaGreat.Q
open Go Go.Sk Go.Dy
variable {M : Go.Sk.Mode}
theorem fl_val (n : Int) (e x : Nat) (he : e ≤ 30) (hx : x ≤ 30) : val n e / 2 ^ (30 - x) = if x ≤ e then n / 2 ^ (e - x) else n * 2 ^ (x - e) := by
  unfold val
  split
  · rw [show 30 - x = (e - x) + (30 - e) by omega, Int.pow_add]
    exact Int.mul_ediv_mul_of_pos_left _ _ (two_pow_pos _)
  · rw [show 30 - e = (x - e) + (30 - x) by omega, Int.pow_add, ← Int.mul_assoc]
    exact Int.mul_ediv_cancel _ (by have := two_pow_pos (30 - x); omega)
theorem flP_Fl (n : Int) (e x : Nat) (he : e ≤ 30) (hx : x ≤ 30) (hn : -1099511627776 ≤ n) (hn' : n ≤ 1099511627776) : Fl (flP n e x) (val n e / 2 ^ (30 - x)) := by
  rw [fl_val n e x he hx]
  unfold flP
  split
  · have := wh_bd n (e - x) 1099511627776 hn hn' (by decide)
    unfold wh at this
    exact ⟨.inl rfl, by omega, by omega⟩
  · have hp := two_pow_pos (x - e)
    have hm : 1099511627776 / (2 : Int) ^ (x - e) * 2 ^ (x - e) ≤ 1099511627776 := Int.ediv_mul_le _ (by omega)
    have hm' : 1099511627776 < (1099511627776 / (2 : Int) ^ (x - e) + 1) * 2 ^ (x - e) := Int.lt_ediv_add_one_mul_self _ hp
    generalize 1099511627776 / (2 : Int) ^ (x - e) = q at *
    split
    · have b1 : (q + 1) * 2 ^ (x - e) ≤ n * 2 ^ (x - e) := Int.mul_le_mul_of_nonneg_right (by omega) (by omega)
      exact ⟨.inr (.inl ⟨by omega, by omega⟩), by omega, by omega⟩
    · split
      · have b1 : n * 2 ^ (x - e) ≤ -(q + 1) * 2 ^ (x - e) := Int.mul_le_mul_of_nonneg_right (by omega) (by omega)
        rw [Int.neg_mul] at b1
        exact ⟨.inr (.inr ⟨by omega, by omega⟩), by omega, by omega⟩
      · have b1 : n * 2 ^ (x - e) ≤ q * 2 ^ (x - e) := Int.mul_le_mul_of_nonneg_right (by omega) (by omega)
        have b2 : -q * 2 ^ (x - e) ≤ n * 2 ^ (x - e) := Int.mul_le_mul_of_nonneg_right (by omega) (by omega)
        rw [Int.neg_mul] at b2
        exact ⟨.inl rfl, by omega, by omega⟩
theorem rflP_Fl (n : Int) (e x : Nat) (he : e ≤ 30) (hx : x ≤ 30) (hn : -1099511627776 ≤ n) (hn' : n ≤ 1099511627776) : Fl (rflP n e x) (val n e / 2 ^ (30 - x)) := by
  have hF : val n e / 2 ^ (30 - x) = wh n e * 2 ^ x + rs n e / 2 ^ (30 - x) := by
    rw [wh_val n e he, rs_val n e he]
    have hp := two_pow_pos (30 - x)
    have h30 := p30 x hx
    have hd := Int.mul_ediv_add_emod (val n e) 1073741824
    generalize val n e / 1073741824 = w at *
    generalize val n e % 1073741824 = r at *
    rw [← hd, ← h30, Int.mul_comm (2 ^ x), Int.mul_assoc, Int.mul_comm (2 ^ x), Int.add_comm, Int.add_mul_ediv_left _ _ (by omega), Int.add_comm]
  have hr := rs_bd n e he
  have hw := wh_bd n e 1099511627776 hn hn' (by decide)
  have hrq : 0 ≤ rs n e / 2 ^ (30 - x) ∧ rs n e / 2 ^ (30 - x) < 2 ^ x := by
    have hp := two_pow_pos (30 - x)
    refine ⟨Int.ediv_nonneg hr.1 (by omega), (Int.ediv_lt_iff_lt_mul hp).2 ?_⟩
    rw [p30 x hx]; exact hr.2
  rw [hF]
  unfold rflP
  have hp := two_pow_pos x
  have hb : (2 : Int) ^ x ≤ 1073741824 := by have := two_pow_le hx; simpa using this
  have hm : 1099511627776 / (2 : Int) ^ x * 2 ^ x ≤ 1099511627776 := Int.ediv_mul_le _ (by omega)
  have hm' : 1099511627776 < (1099511627776 / (2 : Int) ^ x + 1) * 2 ^ x := Int.lt_ediv_add_one_mul_self _ hp
  generalize rs n e / 2 ^ (30 - x) = r at *
  generalize 1099511627776 / (2 : Int) ^ x = q at *
  generalize wh n e = w at *
  rw [Int.add_mul] at hm'
  split
  · have b1 : (q + 1) * 2 ^ x ≤ w * 2 ^ x := Int.mul_le_mul_of_nonneg_right (by omega) (by omega)
    rw [Int.add_mul] at b1
    exact ⟨.inr (.inl ⟨by omega, by omega⟩), by omega, by omega⟩
  · split
    · have b1 : w * 2 ^ x ≤ (-(q + 1) - 1) * 2 ^ x := Int.mul_le_mul_of_nonneg_right (by omega) (by omega)
      rw [Int.sub_mul, Int.neg_mul, Int.add_mul] at b1
      exact ⟨.inr (.inr ⟨by omega, by omega⟩), by omega, by omega⟩
    · have b1 : w * 2 ^ x ≤ (q + 1) * 2 ^ x := Int.mul_le_mul_of_nonneg_right (by omega) (by omega)
      have b2 : (-q - 2) * 2 ^ x ≤ w * 2 ^ x := Int.mul_le_mul_of_nonneg_right (by omega) (by omega)
      rw [Int.add_mul] at b1
      rw [Int.sub_mul, Int.neg_mul] at b2
      exact ⟨.inl rfl, by omega, by omega⟩
end Go.Proofs.YtgdochemlbjnlaaGreat.Q
end

section
/-
  Fractions: between two numbers.
-/
set_option linter.unusedVariables false
set_option linter.unusedSimpArgs false
set_option linter.unusedSectionVars false
set_option maxHeartbeats 8000000
namespace Go.Proofs.YtgdochemlbjnlaaGreat.Q
open Go Go.Sk Go.Dy
variable {M : Go.Sk.Mode}
theorem validB_near (l u : Int) (x : Nat) (hle : l ≤ u) (hl : -1099511627776 ≤ l) (hu : u ≤ 1099511627776) (hx : x ≤ 30) (ho : x = 0 ∨ (l = u ∧ l % 2 = 1)) : validB (near l u) x = true ∧ l ≤ near l u ∧ near l u ≤ u := by
  have h1 : near l u = if 0 < l then l else if u < 0 then u else 0 := by unfold near; rfl
  rw [validB_iff]
  unfold Valid
  rw [h1]
  split
  · omega
  · split <;> omega
attribute [local irreducible] flP rflP oddP near
def bst (l u : Int) (x : Nat) (s : Bool × Int) (c : Int) : Bool × Int :=
  if l ≤ c ∧ c ≤ u ∧ validB c x = true ∧ (s.1 = false ∨ max c (-c) < max s.2 (-s.2)) then (true, c) else s
def cand (l u : Int) (k : Nat) : Int := if k = 0 then 0 else if k = 1 then l else u
def bs (l u : Int) (x : Nat) : Nat → Bool × Int
  | 0 => (false, 0)
  | k + 1 => bst l u x (bs l u x k) (cand l u k)
theorem bs_end (l u : Int) (x : Nat) (hle : l ≤ u) (hl : -1099511627776 ≤ l) (hu : u ≤ 1099511627776) (hx : x ≤ 30) (ho : x = 0 ∨ (l = u ∧ l % 2 = 1)) : bs l u x 3 = (true, near l u) := by
  have h1 : near l u = if 0 < l then l else if u < 0 then u else 0 := by unfold near; rfl
  have v1 : ∀ c, l ≤ c → c ≤ u → (validB c x = true ↔ (x = 0 ∨ c % 2 = 1)) := by
    intro c h1 h2
    rw [validB_iff]; unfold Valid; omega
  show bst l u x (bst l u x (bst l u x (false, 0) 0) l) u = _
  rw [h1]
  have vl := v1 l (by omega) hle
  have vu := v1 u hle (by omega)
  by_cases h0 : l ≤ 0 ∧ 0 ≤ u
  · have v0 := v1 0 h0.1 h0.2
    rcases ho with ho | ho
    · have s1 : bst l u x (false, 0) 0 = (true, 0) := by unfold bst; rw [if_pos ⟨h0.1, h0.2, v0.2 (.inl ho), .inl rfl⟩]
      have s2 : bst l u x (true, 0) l = (true, 0) := by unfold bst; rw [if_neg]; rintro ⟨_, _, _, h | h⟩; cases h; dsimp only at h; omega
      have s3 : bst l u x (true, 0) u = (true, 0) := by unfold bst; rw [if_neg]; rintro ⟨_, _, _, h | h⟩; cases h; dsimp only at h; omega
      rw [s1, s2, s3, if_neg (by omega), if_neg (by omega)]
    · omega
  · have s1 : bst l u x (false, 0) 0 = (false, 0) := by unfold bst; rw [if_neg]; rintro ⟨h3, h4, _⟩; exact h0 ⟨h3, h4⟩
    have s2 : bst l u x (false, 0) l = (true, l) := by unfold bst; rw [if_pos ⟨by omega, hle, vl.2 (by omega), .inl rfl⟩]
    rw [s1, s2]
    have e : max l (-l) = if 0 < l then l else -l := by omega
    unfold bst
    split
    · rename_i h3
      obtain ⟨_, _, _, h3 | h3⟩ := h3
      · cases h3
      · dsimp only at h3
        refine congrArg (Prod.mk true) ?_
        omega
    · rename_i h3
      refine congrArg (Prod.mk true) ?_
      by_cases hlu : l = u
      · omega
      · have : ¬ (max u (-u) < max l (-l)) := fun h => h3 ⟨hle, by omega, vu.2 (by omega), .inr h⟩
        omega
theorem bs_bd (l u : Int) (x : Nat) (hle : l ≤ u) (hl : -1099511627776 ≤ l) (hu : u ≤ 1099511627776) : ∀ k, -1099511627776 ≤ (bs l u x k).2 ∧ (bs l u x k).2 ≤ 1099511627776
  | 0 => ⟨by show (-1099511627776 : Int) ≤ 0; decide, by show (0 : Int) ≤ 1099511627776; decide⟩
  | k + 1 => by
    have ih := bs_bd l u x hle hl hu k
    show -1099511627776 ≤ (bst l u x (bs l u x k) (cand l u k)).2 ∧ (bst l u x (bs l u x k) (cand l u k)).2 ≤ 1099511627776
    unfold bst
    split
    · rename_i h; exact ⟨by dsimp only; omega, by dsimp only; omega⟩
    · exact ih
attribute [irreducible] bst cand
theorem Between_ok (n : Int) (e : Nat) (m : Int) (f : Nat) (h : Hp) (he : Valid n e) (hf : Valid m f) : Ct Tryz.prog 55 [Fr2 n e, Fr2 m f] h (fun _ v => v = Two (btw (val n e) (val m f))) := by
  obtain ⟨he, hn, hn', _⟩ := he
  obtain ⟨hf, hm, hm', _⟩ := hf
  refine ct55 ?_
  intro w0
  unfold s55
  (repeat (first | (refine Gs.box ?_; intro _) | (refine Gs.alloc ?_; intro _)))
  rename_i b1 b2 b3 b4
  have hb0 : btwF (val n e) (val m f) 31 0 = btw (val n e) (val m f) := rfl
  generalize btw (val n e) (val m f) = R at *
  refine G.jn ?_
  refine Gs.lp (β := Nat) (fun x => (.bool false, I x)) (fun _ => h) (fun _ => _) (fun x => btwF (val n e) (val m f) (31 - x) x = R ∧ x ≤ 31 ∧ ∀ y, x = y + 1 → highX (val m f) y < lowX (val n e) y) (fun x => 31 - x) 0 rfl ⟨hb0, by omega, by omega⟩ (fun _ h => h) ?_
  rintro x ⟨hR, hx, hy⟩ cont hc
  (repeat (first | refine G.step ?_ | (refine G.jk ?_; intro _)))
  refine G.ifd ?_ ?_ <;> intro hx30
  · have hx' : x ≤ 30 := by omega
    have hp := flP_Fl n e x he hx' hn hn'
    have hq := flP_Fl (-m) f x hf hx' (by omega) (by omega)
    rw [val_neg] at hq
    obtain ⟨hle, hval⟩ := Fl.bounds hp hq
    obtain ⟨_, hp1, hp2⟩ := hp
    obtain ⟨_, hq1, hq2⟩ := hq
    rw [show 31 - x = (30 - x) + 1 by omega, btwF_succ] at hR
    have ho : ∀ l u : Int, l = lowX (val n e) x → u = highX (val m f) x → l ≤ u → x = 0 ∨ (l = u ∧ l % 2 = 1) := by
      intro l u h1 h2 h3
      rcases Nat.eq_zero_or_pos x with h4 | h4
      · exact .inl h4
      · right
        obtain ⟨y, rfl⟩ : ∃ y, x = y + 1 := ⟨x - 1, by omega⟩
        obtain ⟨a1, a2⟩ := one_only _ _ y (by omega) (hy y rfl) (by rw [← h1, ← h2]; exact h3)
        rw [← h1, ← h2] at a1
        rw [← h1] at a2
        exact ⟨a1, a2⟩
    have hl0 := lowX_bd (val n e) x
    have hu0 := highX_bd (val m f) x
    refine G.jn ?_
    (repeat (refine G.step ?_))
    refine Gs.callv0 (floor_ok n e x h he hx') ?_
    (repeat (first | refine G.add (by omega) ?_ | refine G.step ?_))
    refine Gs.callv0 (neg_ok m f h (by omega) (by omega)) ?_
    refine Gs.callv0 (floor_ok (-m) f x h hf hx') ?_
    generalize flP n e x = p at *
    generalize flP (-m) f x = q at *
    (repeat (first | refine G.sub (by omega) ?_ | refine G.neg (by omega) ?_ | refine G.step ?_))
    generalize max (p + 1) (-1099511627776) = l at *
    generalize min (-q - 1) 1099511627776 = u at *
    refine G.ifd ?_ ?_ <;> intro hul
    · rw [if_neg (by omega)] at hR
      (repeat (first | refine G.add (by omega) ?_ | (refine G.jk ?_; intro _)))
      exact Gs.go (hc (x + 1) ⟨by rw [show 31 - (x + 1) = 30 - x by omega]; exact hR, by omega, fun y hy' => by
        have : x = y := by omega
        subst this
        omega⟩ (by omega)) rfl
    · have hlu : lowX (val n e) x ≤ highX (val m f) x := hle.1 (by omega)
      obtain ⟨e1, e2⟩ := hval hlu
      rw [if_pos hlu, ← e1, ← e2] at hR
      have ho := ho l u e1 e2 (by omega)
      rw [← e1] at hl0
      rw [← e2] at hu0
      have hend := bs_end l u x (by omega) hl0 hu0 hx' ho
      clear hval hle hlu e1 e2 hy hc
      (repeat (refine G.buildA (by rfl) ?_))
      refine Gs.lp (β := Nat) (fun k => (.bool (bs l u x k).1, I k)) (fun _ => h) (fun k => [.blk b4 [I (bs l u x k).2, I (if (bs l u x k).1 then x else 0)] 36, .blk b3 [.int .i64 0, .int .i64 0] 36, .blk b2 [I m, I f] 36, .blk b1 [I n, I e] 36]) (fun k => k ≤ 3) (fun k => 3 - k) 0 rfl (by decide) (fun _ h => h) ?_
      intro k hk cont2 hc2
      have hstep : bs l u x (k + 1) = bst l u x (bs l u x k) (cand l u k) := rfl
      have hc3 := hc2 (k + 1)
      rw [hstep] at hc3
      clear hc2
      (repeat (first | refine G.step ?_ | (refine G.jk ?_; intro _)))
      refine G.ifd ?_ ?_ <;> intro hk3
      · have hcand : [Value.int .i64 0, I l, I u][(k : Int).toNat * 1]? = some (I (cand l u k)) := by
          rw [Int.toNat_natCast, Nat.mul_one]
          unfold cand
          obtain rfl | rfl | rfl : k = 0 ∨ k = 1 ∨ k = 2 := by omega
          all_goals rfl
        have hcb : -1099511627776 ≤ cand l u k ∧ cand l u k ≤ 1099511627776 := by
          unfold cand
          omega
        have hob := bs_bd l u x (by omega) hl0 hu0 k
        generalize cand l u k = c at *
        generalize bs l u x k = s at *
        obtain ⟨fd, on⟩ := s
        dsimp only at *
        refine G.jn ?_
        refine G.indexV1 ⟨by omega, by omega⟩ hcand ?_
        clear hcand hstep
        have hneg : ∀ fd : Bool, ¬ (l ≤ c ∧ c ≤ u ∧ validB c x = true ∧ (fd = false ∨ max c (-c) < max on (-on))) → bst l u x (fd, on) c = (fd, on) := by
          intro fd hn; unfold bst; exact if_neg hn
        have hpos : ∀ fd : Bool, (l ≤ c ∧ c ≤ u ∧ validB c x = true ∧ (fd = false ∨ max c (-c) < max on (-on))) → bst l u x (fd, on) c = (true, c) := by
          intro fd hn; unfold bst; exact if_pos hn
        cases fd
        · ((repeat (first | refine G.step ?_ | (refine Gs.alloc ?_; intro _) | refine Gs.store ?_ | refine Gs.dr ?_ | refine G.qkp ?_ | refine G.jn ?_)); repeat (any_goals ((first | (refine G.ifd ?_ ?_ <;> intro _) | (refine G.ifb ?_ ?_ <;> intro _) | (refine G.gddt ?_ ?_ <;> intro _) | (refine G.gddf ?_ ?_ <;> intro _) | (refine G.gdbt ?_ ?_ <;> intro _) | (refine G.gdbf ?_ ?_ <;> intro _)) <;> (try (exfalso; omega; done)) <;> (repeat (first | refine G.add (by omega) ?_ | refine G.qkp ?_ | refine Gs.qkb ?_ | refine G.iff ?_ | (refine G.jk ?_; intro _))))))
          all_goals first
            | (rw [hneg false (by rintro ⟨h1, h2, _⟩; omega)] at hc3
               exact Gs.goS (hc3 (by omega) (by omega)) rfl)
            | refine Gs.callv0 (valid_ok c x h) ?_
          cases hv : validB c x
          · ((repeat (first | refine G.add (by omega) ?_ | refine G.iff ?_ | refine G.gdft ?_ | (refine G.jk ?_; intro _))); repeat (any_goals ((first | (refine G.ifd ?_ ?_ <;> intro _) | (refine G.ifb ?_ ?_ <;> intro _) | (refine G.gddt ?_ ?_ <;> intro _) | (refine G.gddf ?_ ?_ <;> intro _) | (refine G.gdbt ?_ ?_ <;> intro _) | (refine G.gdbf ?_ ?_ <;> intro _)) <;> (try (exfalso; omega; done)) <;> skip)))
            rw [hneg false (by rw [hv]; rintro ⟨_, _, h3, _⟩; cases h3)] at hc3
            exact Gs.goS (hc3 (by omega) (by omega)) rfl
          · ((repeat (first | refine G.add (by omega) ?_ | refine G.step ?_ | refine Gs.store ?_ | refine G.qkp ?_ | refine G.ift ?_ | refine G.gdtt ?_ | refine G.gdtf ?_ | (refine G.jk ?_; intro _))); repeat (any_goals ((first | (refine G.ifd ?_ ?_ <;> intro _) | (refine G.ifb ?_ ?_ <;> intro _) | (refine G.gddt ?_ ?_ <;> intro _) | (refine G.gddf ?_ ?_ <;> intro _) | (refine G.gdbt ?_ ?_ <;> intro _) | (refine G.gdbf ?_ ?_ <;> intro _)) <;> (try (exfalso; omega; done)) <;> skip)))
            rw [hpos false ⟨by assumption, by assumption, hv, .inl rfl⟩, if_pos rfl] at hc3
            exact Gs.goS (hc3 (by omega) (by omega)) rfl
        · ((repeat (first | refine G.step ?_ | (refine Gs.alloc ?_; intro _) | refine Gs.store ?_ | refine Gs.dr ?_ | refine G.qkp ?_ | refine G.jn ?_)); repeat (any_goals ((first | (refine G.ifd ?_ ?_ <;> intro _) | (refine G.ifb ?_ ?_ <;> intro _) | (refine G.gddt ?_ ?_ <;> intro _) | (refine G.gddf ?_ ?_ <;> intro _) | (refine G.gdbt ?_ ?_ <;> intro _) | (refine G.gdbf ?_ ?_ <;> intro _)) <;> (try (exfalso; omega; done)) <;> (repeat (first | refine G.add (by omega) ?_ | refine G.qkp ?_ | refine Gs.qkb ?_ | refine G.iff ?_ | (refine G.jk ?_; intro _))))))
          all_goals first
            | (rw [hneg true (by rintro ⟨h1, h2, _⟩; omega)] at hc3
               exact Gs.goS (hc3 (by omega) (by omega)) rfl)
            | refine Gs.callv0 (valid_ok c x h) ?_
          cases hv : validB c x
          · ((repeat (first | refine G.add (by omega) ?_ | refine G.iff ?_ | refine G.gdft ?_ | (refine G.jk ?_; intro _))); repeat (any_goals ((first | (refine G.ifd ?_ ?_ <;> intro _) | (refine G.ifb ?_ ?_ <;> intro _) | (refine G.gddt ?_ ?_ <;> intro _) | (refine G.gddf ?_ ?_ <;> intro _) | (refine G.gdbt ?_ ?_ <;> intro _) | (refine G.gdbf ?_ ?_ <;> intro _)) <;> (try (exfalso; omega; done)) <;> skip)))
            rw [hneg true (by rw [hv]; rintro ⟨_, _, h3, _⟩; cases h3)] at hc3
            exact Gs.goS (hc3 (by omega) (by omega)) rfl
          · ((repeat (first | refine G.qkp ?_ | refine Gs.qkb ?_ | refine G.gdtt ?_ | refine G.gdff ?_)); repeat (any_goals ((first | (refine G.ifd ?_ ?_ <;> intro _) | (refine G.ifb ?_ ?_ <;> intro _) | (refine G.gddt ?_ ?_ <;> intro _) | (refine G.gddf ?_ ?_ <;> intro _) | (refine G.gdbt ?_ ?_ <;> intro _) | (refine G.gdbf ?_ ?_ <;> intro _)) <;> (try (exfalso; omega; done)) <;> skip)))
            refine Gs.callv0 (abs_ok c h (by omega) (by omega)) ?_
            ((repeat (first | refine G.withT ?_ | refine Gs.withb ?_)); repeat (any_goals ((first | (refine G.ifd ?_ ?_ <;> intro _) | (refine G.ifb ?_ ?_ <;> intro _) | (refine G.gddt ?_ ?_ <;> intro _) | (refine G.gddf ?_ ?_ <;> intro _) | (refine G.gdbt ?_ ?_ <;> intro _) | (refine G.gdbf ?_ ?_ <;> intro _)) <;> (try (exfalso; omega; done)) <;> skip)))
            refine Gs.callv0 (abs_ok on h (by omega) (by omega)) ?_
            ((repeat (first | refine G.qkp ?_ | (refine G.jk ?_; intro _))); repeat (any_goals ((first | (refine G.ifd ?_ ?_ <;> intro _) | (refine G.ifb ?_ ?_ <;> intro _) | (refine G.gddt ?_ ?_ <;> intro _) | (refine G.gddf ?_ ?_ <;> intro _) | (refine G.gdbt ?_ ?_ <;> intro _) | (refine G.gdbf ?_ ?_ <;> intro _)) <;> (try (exfalso; omega; done)) <;> (repeat (first | refine G.add (by omega) ?_ | refine G.step ?_ | refine Gs.store ?_ | (refine G.jk ?_; intro _))))))
            · rw [hpos true ⟨by assumption, by assumption, hv, .inr (by assumption)⟩, if_pos rfl] at hc3
              exact Gs.goS (hc3 (by omega) (by omega)) rfl
            · rw [hneg true (by rintro ⟨_, _, _, h3 | h3⟩; cases h3; omega)] at hc3
              exact Gs.goS (hc3 (by omega) (by omega)) rfl
      · obtain rfl : k = 3 := by omega
        rw [hend]
        ((repeat (first | refine G.step ?_ | refine Gs.store ?_ | refine G.retc ?_ | refine G.ift ?_ | refine G.iff ?_ | (refine G.jk ?_; intro _))); repeat (any_goals ((first | (refine G.ifd ?_ ?_ <;> intro _) | (refine G.ifb ?_ ?_ <;> intro _) | (refine G.gddt ?_ ?_ <;> intro _) | (refine G.gddf ?_ ?_ <;> intro _) | (refine G.gdbt ?_ ?_ <;> intro _) | (refine G.gdbf ?_ ?_ <;> intro _)) <;> (try (exfalso; omega; done)) <;> skip)))
        rw [← hR]
        exact Gs.ret rfl
  · (repeat (first | refine G.step ?_ | refine Gs.store ?_ | refine G.retc ?_ | refine G.ift ?_ | (refine G.jk ?_; intro _)))
    have : x = 31 := by omega
    subst this
    unfold btwF at hR
    rw [← hR]
    exact Gs.ret rfl
end Go.Proofs.YtgdochemlbjnlaaGreat.Q
end

section
/-
  Fractions: between two numbers, the reference.
-/
set_option linter.unusedVariables false
set_option linter.unusedSimpArgs false
set_option linter.unusedSectionVars false
set_option maxHeartbeats 8000000
namespace Go.Proofs.YtgdochemlbjnlaaGreat.Q
open Go Go.Sk Go.Dy
variable {M : Go.Sk.Mode}
theorem rfloor_ok (n : Int) (e x : Nat) (h : Hp) (he : e ≤ 30) (hx : x ≤ 30) (hn : -1099511627776 ≤ n) (hn' : n ≤ 1099511627776) : Ct Tryz.prog 89 [Fr2 n e, I x] h (fun _ v => v = I (rflP n e x)) := by
  refine ct89 ?_
  intro w0
  unfold s89
  (repeat (first | refine G.step ?_ | (refine Gs.box ?_; intro _)))
  refine Gs.callv0 (whole_ok n e h he hn hn') ?_
  (repeat (refine G.step ?_))
  refine Gs.callv0 (power_ok x h (by omega)) ?_
  have hp := two_pow_pos x
  have hp' := two_pow_pos (30 - x)
  have hb : (2 : Int) ^ x ≤ 1073741824 := by have := two_pow_le hx; simpa using this
  have hq : 0 ≤ 1099511627776 / (2 : Int) ^ x ∧ 1099511627776 / (2 : Int) ^ x ≤ 1099511627776 := ⟨Int.ediv_nonneg (by decide) (Int.le_of_lt hp), Int.ediv_le_self _ (by decide)⟩
  have hm : 1099511627776 / (2 : Int) ^ x * 2 ^ x ≤ 1099511627776 := Int.ediv_mul_le _ (by omega)
  have hrb := rs_bd n e he
  have hrq : 0 ≤ rs n e / 2 ^ (30 - x) ∧ rs n e / 2 ^ (30 - x) ≤ rs n e := ⟨Int.ediv_nonneg hrb.1 (Int.le_of_lt hp'), Int.ediv_le_self _ hrb.1⟩
  have t1 : (1099511627776 : Int).tdiv (2 ^ x) = 1099511627776 / 2 ^ x := Int.tdiv_eq_ediv_of_nonneg (by decide)
  have t2 := ntdiv (2 ^ x) hp
  have t3 : (rs n e).tdiv (2 ^ (30 - x)) = rs n e / 2 ^ (30 - x) := Int.tdiv_eq_ediv_of_nonneg hrb.1
  refine G.quo (by omega) (by omega) ?_
  rw [t1]
  unfold rflP
  generalize 1099511627776 / (2 : Int) ^ x = M at *
  (repeat (first | refine G.add (by omega) ?_ | refine G.step ?_))
  refine G.ifd ?_ ?_ <;> intro h1
  · exact Gs.ret (by rw [if_pos h1])
  refine G.quo (by omega) (by omega) ?_
  rw [t2]
  (repeat (first | refine G.sub (by omega) ?_ | refine G.step ?_))
  refine G.ifd ?_ ?_ <;> intro h2
  · exact Gs.ret (by rw [if_neg h1, if_pos h2])
  have b1 : wh n e * 2 ^ x ≤ (M + 1) * 2 ^ x := Int.mul_le_mul_of_nonneg_right (by omega) (by omega)
  have b2 : (-M - 2) * 2 ^ x ≤ wh n e * 2 ^ x := Int.mul_le_mul_of_nonneg_right (by omega) (by omega)
  rw [Int.add_mul] at b1
  rw [Int.sub_mul, Int.neg_mul] at b2
  (repeat (first | refine G.sub (by omega) ?_ | refine G.mul (by omega) ?_))
  rw [show (30 : Int) - (x : Int) = ((30 - x : Nat) : Int) by omega]
  refine Gs.callv0 (power_ok (30 - x) h (by omega)) ?_
  refine G.quo (by omega) (by omega) ?_
  rw [t3]
  (repeat (refine G.add (by omega) ?_))
  exact Gs.ret (by rw [if_neg h1, if_neg h2])
theorem odd_ok (a b : Int) (h : Hp) (ha : -9223372036854775807 ≤ a ∧ a ≤ 9223372036854775806) (hb : -9223372036854775807 ≤ b ∧ b ≤ 9223372036854775806) : Ct Tryz.prog 91 [I a, I b] h (fun _ v => v = I (oddP a b)) := by
  refine ct91 ?_
  intro w0
  unfold s91
  ((repeat (first | refine G.step ?_ | refine G.jn ?_)); repeat (any_goals ((first | (refine G.ifd ?_ ?_ <;> intro _) | (refine G.ifb ?_ ?_ <;> intro _) | (refine G.gddt ?_ ?_ <;> intro _) | (refine G.gddf ?_ ?_ <;> intro _) | (refine G.gdbt ?_ ?_ <;> intro _) | (refine G.gdbf ?_ ?_ <;> intro _)) <;> (try (exfalso; omega; done)) <;> (repeat (first | refine G.add (by omega) ?_ | refine G.sub (by omega) ?_ | refine G.rem (by omega) ?_ | refine G.step ?_ | refine G.iff ?_ | refine G.jn ?_ | (refine G.jk ?_; intro _))))))
  all_goals
    have := tmod2 a
    have := tmod2 b
    refine Gs.ret ?_
    unfold oddP
    refine congrArg I ?_
    repeat' split
    all_goals omega
attribute [local irreducible] rflP oddP near
theorem between_ok (n : Int) (e : Nat) (m : Int) (f : Nat) (h : Hp) (he : Valid n e) (hf : Valid m f) : Ct Tryz.prog 80 [Fr2 n e, Fr2 m f] h (fun _ v => v = Got (btw (val n e) (val m f))) := by
  obtain ⟨he, hn, hn', _⟩ := he
  obtain ⟨hf, hm, hm', _⟩ := hf
  refine ct80 ?_
  intro w0
  unfold s80
  (repeat (first | (refine Gs.box ?_; intro _) | (refine Gs.alloc ?_; intro _)))
  have hb0 : btwF (val n e) (val m f) 31 0 = btw (val n e) (val m f) := rfl
  generalize btw (val n e) (val m f) = R at *
  refine Gs.lp (β := Nat) (fun x => I x) (fun _ => h) (fun _ => _) (fun x => btwF (val n e) (val m f) (31 - x) x = R ∧ x ≤ 31 ∧ ∀ y, x = y + 1 → highX (val m f) y < lowX (val n e) y) (fun x => 31 - x) 0 rfl ⟨hb0, by omega, by omega⟩ (fun _ h => h) ?_
  rintro x ⟨hR, hx, hy⟩ cont hc
  (repeat (first | refine G.step ?_ | (refine G.jk ?_; intro _)))
  refine G.ifd ?_ ?_ <;> intro hx30
  · have hx' : x ≤ 30 := by omega
    have hp := rflP_Fl n e x he hx' hn hn'
    have hq := rflP_Fl (-m) f x hf hx' (by omega) (by omega)
    rw [val_neg] at hq
    obtain ⟨hle, hval⟩ := Fl.bounds hp hq
    obtain ⟨_, hp1, hp2⟩ := hp
    obtain ⟨_, hq1, hq2⟩ := hq
    rw [show 31 - x = (30 - x) + 1 by omega, btwF_succ] at hR
    have ho : ∀ l u : Int, l = lowX (val n e) x → u = highX (val m f) x → l ≤ u → x = 0 ∨ (l = u ∧ l % 2 = 1) := by
      intro l u h1 h2 h3
      rcases Nat.eq_zero_or_pos x with h4 | h4
      · exact .inl h4
      · right
        obtain ⟨y, rfl⟩ : ∃ y, x = y + 1 := ⟨x - 1, by omega⟩
        obtain ⟨a1, a2⟩ := one_only _ _ y (by omega) (hy y rfl) (by rw [← h1, ← h2]; exact h3)
        rw [← h1, ← h2] at a1
        rw [← h1] at a2
        exact ⟨a1, a2⟩
    have hl0 := lowX_bd (val n e) x
    have hu0 := highX_bd (val m f) x
    refine G.jn ?_
    (repeat (refine G.step ?_))
    refine Gs.callv0 (rfloor_ok n e x h he hx' hn hn') ?_
    (repeat (first | refine G.add (by omega) ?_ | refine G.step ?_))
    refine Gs.callv0 (rneg_ok m f h (by omega) (by omega)) ?_
    refine Gs.callv0 (rfloor_ok (-m) f x h hf hx' (by omega) (by omega)) ?_
    generalize rflP n e x = p at *
    generalize rflP (-m) f x = q at *
    (repeat (first | refine G.sub (by omega) ?_ | refine G.neg (by omega) ?_ | refine G.step ?_))
    generalize max (p + 1) (-1099511627776) = l at *
    generalize min (-q - 1) 1099511627776 = u at *
    refine G.ifd ?_ ?_ <;> intro hul
    · rw [if_neg (by omega)] at hR
      (repeat (first | refine G.add (by omega) ?_ | (refine G.jk ?_; intro _)))
      exact Gs.go (hc (x + 1) ⟨by rw [show 31 - (x + 1) = 30 - x by omega]; exact hR, by omega, fun y hy' => by
        have : x = y := by omega
        subst this
        omega⟩ (by omega)) rfl
    · have hlu : lowX (val n e) x ≤ highX (val m f) x := hle.1 (by omega)
      obtain ⟨e1, e2⟩ := hval hlu
      rw [if_pos hlu, ← e1, ← e2] at hR
      have ho := ho l u e1 e2 (by omega)
      rw [← e1] at hl0
      rw [← e2] at hu0
      have hv := validB_near l u x (by omega) hl0 hu0 hx' ho
      have hnear : near l u = if 0 < l then l else if u < 0 then u else 0 := by unfold near; rfl
      have ht2 := tmod2 l
      clear hval hle hlu e1 e2 hy hc
      ((repeat (first | refine G.step ?_ | refine G.jn ?_)); repeat (any_goals ((first | (refine G.ifd ?_ ?_ <;> intro _) | (refine G.ifb ?_ ?_ <;> intro _) | (refine G.gddt ?_ ?_ <;> intro _) | (refine G.gddf ?_ ?_ <;> intro _) | (refine G.gdbt ?_ ?_ <;> intro _) | (refine G.gdbf ?_ ?_ <;> intro _)) <;> (try (exfalso; omega; done)) <;> (repeat (first | refine G.rem (by omega) ?_ | refine G.step ?_ | (refine Gs.alloc ?_; intro _) | refine Gs.store ?_ | refine G.iff ?_ | refine G.jn ?_ | (refine G.jk ?_; intro _))))))
      all_goals first
        | (exfalso; have := ht2.1 (by assumption); omega)
        | (exfalso; have := (tmod2 u).1 (by assumption); omega)
        | skip
      all_goals
        first
          | rw [if_pos (by omega)] at hnear
          | rw [if_neg (by omega), if_pos (by omega)] at hnear
          | rw [if_neg (by omega), if_neg (by omega)] at hnear
        rw [hnear] at hv hR
        obtain ⟨hv1, hv2, hv3⟩ := hv
        refine Gs.callv0 (rvalid_ok _ x h) ?_
        rw [hv1]
        ((repeat (first | refine G.step ?_ | refine G.gdtt ?_)); repeat (any_goals ((first | (refine G.ifd ?_ ?_ <;> intro _) | (refine G.ifb ?_ ?_ <;> intro _) | (refine G.gddt ?_ ?_ <;> intro _) | (refine G.gddf ?_ ?_ <;> intro _) | (refine G.gdbt ?_ ?_ <;> intro _) | (refine G.gdbf ?_ ?_ <;> intro _)) <;> (try (exfalso; omega; done)) <;> (repeat (first | refine G.step ?_ | refine Gs.store ?_ | refine G.retc ?_ | (refine G.jk ?_; intro _))))))
        exact Gs.ret (by rw [← hR])
  · refine G.step ?_
    (repeat (first | refine Gs.store ?_ | refine G.retc ?_))
    have : x = 31 := by omega
    subst this
    unfold btwF at hR
    rw [← hR]
    exact Gs.ret rfl
theorem rBetween_ok (n : Int) (e : Nat) (m : Int) (f : Nat) (h : Hp) (he : Valid n e) (hf : Valid m f) : Ct Tryz.prog 59 [Fr2 n e, Fr2 m f] h (fun _ v => v = Two (btw (val n e) (val m f))) := by
  refine ct59 ?_
  intro w0
  unfold s59
  (repeat (first | refine G.step ?_ | (refine Gs.box ?_; intro _) | (refine Gs.alloc ?_; intro _)))
  refine Gs.callv0 (between_ok n e m f h he hf) ?_
  (repeat (first | (refine Gs.alloc ?_; intro _) | refine Gs.store ?_ | refine G.retc ?_ | refine Gs.dr ?_ | refine G.qkp ?_ | refine Gs.qkb ?_ | refine G.withT ?_ | refine Gs.withb ?_))
  exact Gs.ret rfl
end Go.Proofs.YtgdochemlbjnlaaGreat.Q
end

