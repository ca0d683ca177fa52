/-
  Values: the law ValueLimits, walked.
-/
import Derived.Test.YtgdochemlbjnlaaVg
set_option linter.unusedVariables false
set_option linter.unusedSimpArgs false
set_option linter.unusedSectionVars false
set_option maxHeartbeats 2000000
set_option maxRecDepth 100000
namespace Go.Proofs.Ytgdochemlbjnlaa
open Go Go.Sk Go.Va Go.RowKit
open Go.Dy (strip Valid val btw validB)
variable {M : Go.Sk.Mode}
attribute [local irreducible] Go.Sk.vCall Go.Sk.Ct
theorem tmod_bd (a b : Int) (hb : 0 < b) : -b < a.tmod b ∧ a.tmod b < b := ⟨Int.lt_tmod_of_pos a hb, Int.tmod_lt_of_pos a hb⟩
theorem OfP.all {h : Hp} {n : Int} {e : Nat} {v : Value} (ho : OfP h n e v) : ∃ y ec, v = .tuple #[vF y, I ec] ∧ (sz (ff (val n e)) ≤ 2000 → ec = 0 ∧ FmR h y (ff (val n e))) ∧ (¬ sz (ff (val n e)) ≤ 2000 → ec = 2 ∧ y = ((none, 0, 0), (none, 0, 0))) := by
  rcases ho with ⟨h1, y, rfl, h2⟩ | ⟨h1, rfl⟩
  · exact ⟨y, 0, rfl, fun _ => ⟨rfl, h2⟩, fun hh => absurd h1 hh⟩
  · exact ⟨_, 2, rfl, fun hh => absurd h1 (by omega), fun _ => ⟨rfl, rfl⟩⟩
theorem limits_ok (n : Int) (b : UInt8) (h : Hp) (hn : -32768 ≤ n ∧ n ≤ 32767) : Ct Try.prog 9 [.int .i16 n, .int .u8 b.toNat] h (fun _ v => v = .bool true) := by
  refine ct9 ?_
  intro w0
  unfold s9
  refine Gs.callv0 (sanity_ok h) ?_
  have hu := u8b b
  have m1 := tmod_bd n 2101 (by decide)
  have m2 := tmod_bd n 400 (by decide)
  (repeat (first | refine G.rem (by omega) ?_ | refine G.conv (by omega) ?_ | refine G.step ?_))
  have vm : Vd (n.tmod 2101) 0 := ⟨by decide, .inl rfl, by omega, by omega⟩
  have hs : sz (ff (val (n.tmod 2101) 0)) = (n.tmod 2101).natAbs + 1 := by rw [sz_whole vm.nu.2, vm.nu.1]
  refine Gs.call0 (of_ok (n.tmod 2101) 0 h vm) ?_
  rintro _ h1 le1 hOf
  obtain ⟨y, ec, rfl, hyes, hno⟩ := hOf.all
  rw [hs] at hyes hno
  generalize n.tmod 2101 = m at *
  obtain ⟨k, hk, hk8⟩ : ∃ k : Nat, (b.toNat : Int).tmod 9 = k ∧ k ≤ 8 := by
    have := tmod_bd (b.toNat : Int) 9 (by decide)
    have h0 := Int.tmod_nonneg 9 (show (0 : Int) ≤ (b.toNat : Int) by omega)
    exact ⟨((b.toNat : Int).tmod 9).toNat, by omega, by omega⟩
  (repeat (first | refine G.step ?_ | (refine Gs.alloc ?_; intro _) | refine Gs.store ?_))
  rename_i fb
  refine G.jnP (fun j => j = .bool (decide (-1999 ≤ m ∧ m ≤ 1999))) ?_ ?_
  · rintro _ rfl
    refine G.jk ?_; intro _
    refine G.jnP (fun j => j = .bool false) ?_ ?_
    · rintro _ rfl
      refine G.jk ?_; intro _
      (repeat (first | refine G.add (by omega) ?_ | refine G.mul (by omega) ?_ | refine G.rem (by omega) ?_ | refine G.conv (by omega) ?_ | refine G.step ?_ | (refine Gs.alloc ?_; intro _) | refine Gs.store ?_ | refine G.iff ?_))
      rw [hk]
      skip
      rw [show (1 : Int) + (k : Int) = ((1 + k : Nat) : Int) by omega]
      generalize n.tmod 400 = r at *
      have vx : Vd (2 * r + 1) (1 + k) := ⟨by omega, .inr (by omega), by omega, by omega⟩
      refine Gs.call0 (long_ok (1 + k) (2 * r + 1) (1 + k) (Nat.le_refl _) vx 2000 h1 (by decide) (by decide)) ?_
      rintro _ h2 le2 ⟨sz', rfl, k1, k2, k3, k4⟩
      (repeat (refine G.step ?_))
      refine Gs.call0 (of_ok (2 * r + 1) (1 + k) h2 vx) ?_
      rintro _ h3 le3 hOf3
      obtain ⟨g, eg, rfl, gyes, gno⟩ := hOf3.all
      have hnum := fun hle => Number_ff (M := M) (val (2 * r + 1) (1 + k)) (rg_val ⟨vx.1, by have := vx.2.2.1; omega, by have := vx.2.2.2; omega, vx.2.1⟩) (ff (val (2 * r + 1) (1 + k))) (canon_ff _) g h3 (gyes hle).2 (by omega)
      rw [vx.nu.1, vx.nu.2] at hnum
      (repeat (first | refine G.step ?_ | (refine Gs.alloc ?_; intro _) | refine Gs.store ?_))
      by_cases hfit : sz (ff (val (2 * r + 1) (1 + k))) ≤ 2000
      · obtain ⟨rfl, rg⟩ := gyes hfit
        have e1 : sz' = sz (ff (val (2 * r + 1) (1 + k))) := k3 (by omega)
        rw [decide_eq_true (show sz' ≤ 2000 by omega)]
        (repeat (first | refine G.step ?_ | refine G.iff ?_))
        refine Gs.callv0 (hnum hfit) ?_
        (repeat (first | refine G.step ?_ | (refine Gs.alloc ?_; intro _) | refine Gs.store ?_))
        refine Gs.callv0 (rsize_ok 2000 _ hfit (by decide) h3 g rg) ?_
        rw [← e1]
        (repeat (first | refine G.step ?_ | refine G.gdtt ?_ | refine G.gdby (by first | (simp; done) | omega) ?_))
        exact Gs.ret rfl
      · obtain ⟨rfl, rfl⟩ := gno hfit
        have e1 := k4 (by omega)
        rw [decide_eq_false (show ¬ sz' ≤ 2000 by omega)]
        (repeat (first | refine G.step ?_ | refine G.ift ?_ | refine G.iff ?_ | refine G.gdtt ?_))
        refine Gs.callv0 (zero_ok Va.zero ((none, 0, 0), (none, 0, 0)) h3 (FmR.zero h3) (by decide)) ?_
        (repeat (refine G.gdtt ?_))
        exact Gs.ret rfl
    · intro k11 hk11
      by_cases hfit : m.natAbs + 1 ≤ 2000
      · obtain ⟨rfl, ry⟩ := hyes hfit
        rw [decide_eq_true (show -1999 ≤ m ∧ m ≤ 1999 by omega)]
        (repeat (first | refine G.step ?_ | refine G.gdtt ?_ | refine G.gdff ?_ | refine G.gdft ?_))
        refine Gs.callv0 (rsize_ok 2000 _ (by rw [hs]; exact hfit) (by decide) h1 y ry) ?_
        rw [hs]
        (repeat (first | refine G.add (by omega) ?_ | refine G.sub (by omega) ?_ | refine G.step ?_))
        refine hk11 _ ?_
        rw [decide_eq_false]
        omega
      · obtain ⟨rfl, rfl⟩ := hno hfit
        rw [decide_eq_false (show ¬ (-1999 ≤ m ∧ m ≤ 1999) by omega)]
        (repeat (first | refine G.step ?_ | refine G.gdtt ?_ | refine G.gdff ?_))
        refine Gs.callv0 (zero_ok Va.zero ((none, 0, 0), (none, 0, 0)) h1 (FmR.zero h1) (by decide)) ?_
        (repeat (first | refine G.step ?_ | refine G.gdff ?_ | refine G.gdft ?_))
        exact hk11 _ rfl
  · intro k10 hk10
    (repeat (refine G.step ?_))
    refine G.gddt ?_ ?_ <;> intro c1
    · (repeat (refine G.step ?_))
      refine hk10 _ ?_
      congr 1
      rw [decide_eq_decide]
      omega
    · refine hk10 _ ?_
      rw [decide_eq_false]
      omega
end Go.Proofs.Ytgdochemlbjnlaa
