/-
  Lemmas for the proof of the statement of this claim: a part of the road, no statement of its own. Conditions: those that each lemma names.
-/
import Derived.Test.YtcmokdokcghooaaGreatDoorKc
import Derived.Test.YtcmokdokcghooaaGreatDoorKm
import Derived.Test.YtcmokdokcghooaaGreatDoorSh
import Derived.Lib.SmallJoins
import Derived.Lib.AtoiAllCases
import Derived.Test.YtcmokdokcghooaaGreatDoorKg
section
set_option linter.unusedVariables false
set_option maxHeartbeats 4000000
namespace Go.Proofs.YtcmokdokcghooaaGreatDoor
open Go Go.Sk Go.Pr Go.Ps Go.RowKit
/-- What the library's variables hold. -/
structure Env (h : Hp) : Prop where
  pow : ∀ w, Hle h (World.hp w) → Lib.TabIs Tryz.prog w "internal/strconv.uint64pow10" .u64 Lib.pow10Tab
  mx : ∃ m, ∀ w, Hle h (World.hp w) → w.cell? ⟨2, 0, none⟩ = some (.int .i64 m)
  esyn : ∃ tp p, ∀ w, Hle h (World.hp w) → w.var? Tryz.prog "strconv.ErrSyntax" = some #[.iface tp p]
  eran : ∃ tp p, ∀ w, Hle h (World.hp w) → w.var? Tryz.prog "strconv.ErrRange" = some #[.iface tp p]
theorem Env.mono {h h' : Hp} (hle : Hle h h') (e : Env h) : Env h' where
  pow := fun w hw => e.pow w (hle.trans hw)
  mx := e.mx.imp fun m hm w hw => hm w (hle.trans hw)
  esyn := by obtain ⟨tp, p, hp⟩ := e.esyn; exact ⟨tp, p, fun w hw => hp w (hle.trans hw)⟩
  eran := by obtain ⟨tp, p, hp⟩ := e.eran; exact ⟨tp, p, fun w hw => hp w (hle.trans hw)⟩
theorem below_grow' (w : World) (k : Nat) (os : Array Obj) : Below w.heap.size w (Sort.grow (w.drewN k) os) := by
  refine ⟨rfl, rfl, rfl, ?_, fun b hb => ?_⟩
  · show w.heap.size ≤ (w.heap ++ os).size
    simp
  · show (w.heap ++ os)[b]? = _
    rw [Array.getElem?_append_left hb]
theorem Itoa_ok (n : Int) (h : Hp) (h1 : -9223372036854775808 ≤ n) (h2 : n ≤ 9223372036854775807) (he : Env h) : Ct Tryz.prog 70 [I n] h (fun _ v => v = Str (Lib.itoa n)) :=
  Ct.lib fun w hw => Calls.mono (Any.strconv_Itoa Tryz.laysM171 n h1 h2 w (he.pow w hw)) fun e w' hh => by
    obtain ⟨h3, k, os, h4⟩ := hh
    subst h4
    exact ⟨_, h3, rfl, below_grow' w k os⟩
/-- How Atoi ends. -/
def AtoiR (l : List UInt8) (v : Value) : Prop := ∃ n err, v = .tuple #[I n, err] ∧ -9223372036854775808 ≤ n ∧ n ≤ 9223372036854775807 ∧ ((err = .nilIface ∧ Lib.atoiAll l = .ok n) ∨ ((∃ tp N, err = .iface tp (.pointer (some ⟨N, 0, none⟩))) ∧ ∀ m, Lib.atoiAll l ≠ .ok m))
theorem Atoi_ok (l : List UInt8) (h : Hp) (hE : Env h) (hl : l.length ≤ 4294967281) : Ct Tryz.prog 43 [Str l] h (fun _ v => AtoiR l v) := by
  obtain ⟨ts, ps, hs⟩ := hE.esyn
  obtain ⟨tr, pr, hr⟩ := hE.eran
  have hsz : (⟨l.toArray⟩ : ByteArray).size = l.length := by simp [ByteArray.size]
  refine Ct.lib fun w hw => ?_
  cases hA : Lib.atoiAll l
  · rename_i v
    refine Calls.mono (Any.strconv_Atoi_ok Tryz.laysC172 ⟨l.toArray⟩ (by omega) v hA w) fun e w' hh => ?_
    obtain ⟨h1, h2⟩ := hh
    have hb := Lib.atoiAll_bounds hA
    refine ⟨_, h1, ⟨v, .nilIface, rfl, hb.1, hb.2, .inl ⟨rfl, hA⟩⟩, ?_⟩
    rcases h2 with h2 | ⟨t, h2⟩
    · subst h2; exact Below.refl _ _
    · subst h2; exact Joins.below_bytesWorld _ w 5 t (Nat.le_refl _)
  · refine Calls.mono (Any.strconv_Atoi_syntax_var Tryz.laysC172 ⟨l.toArray⟩ (by omega) hA ts ps w (hs w hw)) fun e w' hh => ?_
    obtain ⟨N, h1, _, _, h2⟩ := hh
    exact ⟨_, h1, ⟨0, _, rfl, by decide, by decide, .inr ⟨⟨_, N, rfl⟩, fun m hm => by rw [hA] at hm; cases hm⟩⟩, h2⟩
  · refine Calls.mono (Any.strconv_Atoi_range_var Tryz.laysC172 ⟨l.toArray⟩ (by omega) hA tr pr w (hr w hw)) fun e w' hh => ?_
    obtain ⟨N, h1, _, _, h2⟩ := hh
    have hb := Lib.atoiSat_bounds l
    exact ⟨_, h1, ⟨_, _, rfl, hb.1, hb.2, .inr ⟨⟨_, N, rfl⟩, fun m hm => by rw [hA] at hm; cases hm⟩⟩, h2⟩
theorem Join_ok (l : List (List UInt8)) (v : Value) (h : Hp) (hr : RdE h v eStr 1 l) (h1 : l ≠ []) (hl : l.length ≤ 1000000) (hj : (Lib.join l [47]).length ≤ 1000000) : Ct Tryz.prog 67 [v, Str [47]] h (fun _ r => r = Str (Lib.join l [47])) := by
  obtain ⟨g1, a, cap, rfl, g3, g4⟩ := hr
  rcases g4 with g4 | ⟨b, o, rfl, hp⟩
  · exact absurd (List.eq_nil_of_length_eq_zero g4) h1
  refine Ct.lib fun w hw => ?_
  have hmap : (l.map fun s => (⟨s.toArray⟩ : ByteArray)).map (·.data.toList) = l := by
    rw [List.map_map]
    have : ((fun x : ByteArray => x.data.toList) ∘ fun s : List UInt8 => (⟨s.toArray⟩ : ByteArray)) = id := rfl
    rw [this, List.map_id]
  have hcell : ∀ (j : Nat) x, (l.map fun s => (⟨s.toArray⟩ : ByteArray))[j]? = some x → w.cell? ⟨b, o + j, none⟩ = some (.string x) := by
    intro j x hx
    rw [List.getElem?_map] at hx
    cases hlj : l[j]? with
    | none => rw [hlj] at hx; cases hx
    | some s =>
      rw [hlj] at hx
      cases hx
      obtain ⟨hj', hjs⟩ := List.getElem?_eq_some_iff.1 hlj
      refine hcell_cell hw (hp j _ ?_)
      have hc := fl_chunk (enc := eStr) l j hj'
      have := chunk_get (xs := fl eStr l) (sz := 1) (i := j) (j := 0) (v := Str l[j]) (by rw [hc]; rfl)
      rw [Nat.mul_one, Nat.add_zero] at this
      rw [this, hjs]
  have hbk : b < w.heap.size := by
    have h0 : 0 < l.length := by
      cases l with
      | nil => exact absurd rfl h1
      | cons a r => simp
    have := hcell 0 ⟨(l[0]).toArray⟩ (by simp [h0])
    unfold World.cell? at this
    rcases Nat.lt_or_ge b w.heap.size with hh | hh
    · exact hh
    · simp [Array.getElem?_eq_none hh] at this
  have hN : (l.map fun s => (⟨s.toArray⟩ : ByteArray)).length = l.length := List.length_map ..
  have := Any.strings_Join Tryz.lays156 Tryz.Builder_Extra_156 b o cap (l.map fun s => (⟨s.toArray⟩ : ByteArray)) ⟨#[47]⟩ w hcell hbk (by omega) (by omega) (by rw [hmap]; show (Lib.join l [47]).length ≤ _; omega)
  rw [hN, hmap] at this
  refine Calls.mono this fun e w' hh => ?_
  exact ⟨_, hh.1, rfl, hh.2⟩
theorem str_eq' (s : ByteArray) : Value.string s = Str s.data.toList := by
  obtain ⟨⟨l⟩⟩ := s
  rfl
theorem Split_ok (l : List UInt8) (h : Hp) (hE : Env h) (hl : l.length < 4294967281) : Ct Tryz.prog 41 [Str l, Str [47]] h (fun h' v => RdE h' v eStr 1 (spl l)) := by
  obtain ⟨m, hm⟩ := hE.mx
  refine Ct.alloc fun w hw => ?_
  have := Any.strings_Split Tryz.lays146 (by kernel_rfl) ⟨l.toArray⟩ ⟨#[47]⟩ m w (by simpa [ByteArray.size] using hl) (hm w hw) (by decide)
  have hall := Lib.splitB_all ⟨#[47]⟩ (by decide) 0 _ ⟨l.toArray⟩ rfl
  have hdata := Lib.splitB_data ⟨#[47]⟩ 0 (Lib.countB ⟨l.toArray⟩ ⟨#[47]⟩) ⟨l.toArray⟩
  have hcount : Lib.countB ⟨l.toArray⟩ ⟨#[47]⟩ = Lib.count l [47] := rfl
  have hspl : (Lib.splitB ⟨#[47]⟩ 0 (Lib.countB ⟨l.toArray⟩ ⟨#[47]⟩) ⟨l.toArray⟩).map (·.data.toList) = spl l := by
    rw [hdata, hcount]
    exact split_spl l
  refine Calls.mono this fun e w' hh => ?_
  obtain ⟨e1, e2⟩ := hh
  refine ⟨_, _, e1, e2, fun h' hb => ?_⟩
  generalize Lib.splitB ⟨#[47]⟩ 0 (Lib.countB ⟨l.toArray⟩ ⟨#[47]⟩) ⟨l.toArray⟩ = bs at *
  generalize Lib.countB ⟨l.toArray⟩ ⟨#[47]⟩ = c at *
  have hlen : (spl l).length = c + 1 := by rw [← hspl, List.length_map, hall]
  refine ⟨fl_len _, _, c + 1, by rw [hlen], by omega, .inr ⟨w.heap.size, 0, rfl, ?_⟩⟩
  intro j u hj
  unfold hcell
  rw [hb]
  simp only [Nat.zero_add, List.getElem?_toArray]
  have hcs : bs.map Value.string = fl eStr (spl l) := by
    rw [← hspl]
    clear hspl hdata hall this hj e1 e2 hb hlen
    induction bs with
    | nil => rfl
    | cons a r ih =>
      rw [List.map_cons, List.map_cons, fl_cons, ← ih]
      show Value.string a :: _ = _
      rw [str_eq' a]
      rfl
  rw [hcs]
  exact hj
end Go.Proofs.YtcmokdokcghooaaGreatDoor
end

section
set_option linter.unusedVariables false
set_option maxHeartbeats 4000000
namespace Go.Proofs.YtcmokdokcghooaaGreatDoor
open Go Go.Sk Go.Pr Go.Ps Go.RowKit
variable {w0 : World} {h0 h : Hp} {L : List Itm} {K : Value → WP}
theorem sgn_odd {n : Int} (h0 : n ≠ 0) (h1 : n % 2 = 1) : sgn n = byt (65 + (n - 1) / 2) := by unfold sgn; rw [if_neg h0, if_pos h1]
theorem sgn_even {n : Int} (h0 : n ≠ 0) (h1 : n % 2 ≠ 1) : sgn n = byt (97 + (n - 1) / 2) := by unfold sgn; rw [if_neg h0, if_neg h1]
theorem sign_ok (n : Int) (h : Hp) (hn : 0 ≤ n ∧ n ≤ 12) : Ct Tryz.prog 66 [I n] h (fun _ v => v = .int .u8 (sgn n).toNat) := by
  refine ct66 ?_
  intro w0
  unfold s66
  (repeat (refine G.step ?_))
  refine G.ifd ?_ ?_ <;> intro h0
  · exact Gs.ret (by rw [h0]; rfl)
  · refine G.rem (by decide) ?_
    rw [Int.tmod_eq_emod_of_nonneg hn.1]
    (repeat (refine G.step ?_))
    refine G.ifd ?_ ?_ <;> intro h1
    · refine G.quo (by decide) (by omega) ?_
      rw [Int.tdiv_eq_ediv_of_nonneg hn.1]
      refine G.add (by omega) ?_
      refine G.step ?_
      rw [wrap_byt]
      refine Gs.ret ?_
      rw [sgn_odd h0 h1]
      have : 65 + n / 2 = 65 + (n - 1) / 2 := by omega
      rw [this]
    · refine G.quo (by decide) (by omega) ?_
      rw [Int.tdiv_eq_ediv_of_nonneg hn.1]
      refine G.add (by omega) ?_
      refine G.sub (by omega) ?_
      refine G.step ?_
      rw [wrap_byt]
      refine Gs.ret ?_
      rw [sgn_even h0 h1]
      have : 97 + n / 2 - 1 = 97 + (n - 1) / 2 := by omega
      rw [this]
theorem one_byte (b : UInt8) {e : TypeId} {q : Nat} (hk : Gs w0 h0 h (.sl (.slice (some ⟨q, 0, none⟩) 1 1) e 1 (fl eByte [b]) :: L) (K (Str [b]))) {d s by_ : Nat} [ht : TSlice Tryz.prog s e 1 by_] [he : TInt Tryz.prog e .u8] [hd : TStr Tryz.prog d] : Gs w0 h0 h (.sl (.slice (some ⟨q, 0, none⟩) 1 1) e 1 [.int .u8 b.toNat] :: L) (Do Tryz.prog (V (convert s d (.slice (some ⟨q, 0, none⟩) 1 1))) K) :=
  Gs.sbytes (l := [b]) rfl hk
theorem rsign_ok (n : Int) (h : Hp) (hn : 0 ≤ n ∧ n ≤ 12) : Ct Tryz.prog 39 [I n] h (fun _ v => v = Str [sgn n]) := by
  refine ct39 ?_
  intro w0
  unfold s39
  (repeat (refine G.step ?_))
  refine G.ifd ?_ ?_ <;> intro h0
  · exact Gs.ret (by rw [h0]; rfl)
  · refine G.rem (by decide) ?_
    rw [Int.tmod_eq_emod_of_nonneg hn.1]
    (repeat (refine G.step ?_))
    refine G.ifd ?_ ?_ <;> intro h1
    · refine G.sub (by omega) ?_
      refine G.quo (by decide) (by omega) ?_
      rw [Int.tdiv_eq_ediv_of_nonneg (by omega)]
      refine G.add (by omega) ?_
      refine G.step ?_
      rw [wrap_byt, ← sgn_odd h0 h1]
      refine Gs.buildSlice (by decide) ?_
      intro q
      refine one_byte _ ?_
      exact Gs.ret rfl
    · refine G.sub (by omega) ?_
      refine G.quo (by decide) (by omega) ?_
      rw [Int.tdiv_eq_ediv_of_nonneg (by omega)]
      refine G.add (by omega) ?_
      refine G.step ?_
      rw [wrap_byt, ← sgn_even h0 h1]
      refine Gs.buildSlice (by decide) ?_
      intro q
      refine one_byte _ ?_
      exact Gs.ret rfl
theorem decimal_ok (n : Int) (h : Hp) (hn : 0 ≤ n ∧ n ≤ 9) : Ct Tryz.prog 40 [I n] h (fun _ v => v = Str [dgt n]) := by
  refine ct40 ?_
  intro w0
  unfold s40
  refine G.rem (by decide) ?_
  rw [Int.tmod_eq_emod_of_nonneg hn.1]
  refine G.add (by omega) ?_
  refine G.step ?_
  have e : 48 + n % 10 = 48 + n := by omega
  rw [wrap_byt, e]
  refine Gs.buildSlice (by decide) ?_
  intro q
  refine one_byte (byt (48 + n)) ?_
  (repeat (first | refine G.step ?_ | refine G.ifn (by first | (simp; done) | omega) ?_))
  exact Gs.ret rfl
theorem itoa_dgt (n : Int) (h : 0 ≤ n ∧ n ≤ 9) : Lib.itoa n = [dgt n] := by
  obtain ⟨k, rfl⟩ := Int.eq_ofNat_of_zero_le h.1
  rw [Lib.itoa_nonneg, Lib.decDigits_one (by omega)]
  have : ∀ k : Nat, k ≤ 9 → [UInt8.ofNat (48 + k)] = [dgt (k : Int)] := by decide
  have h2 := this k (by omega)
  simpa using h2
theorem digits_ok (l : List Int) (v : Value) (h : Hp) (hE : Env h) (hr : RdE h v eInt 1 l) (hl : l.length ≤ 1000000) (hb : ∀ n ∈ l, 0 ≤ n ∧ n ≤ 9) : Ct Tryz.prog 69 [v] h (fun _ r => r = Str (l.map dgt)) := by
  refine ct69 ?_
  intro w0
  unfold s69
  refine Gs.alloc ?_
  intro b
  refine Gs.lenE hr (by omega) ?_
  refine Gs.nilsl 5 1 ?_
  refine Gs.lp (β := Nat × Value × SlH) (fun g => I g.1) (fun _ => h) (fun g => [.blk b [g.2.1, slv g.2.2] 116, .sl (slv g.2.2) 5 1 (fl eByte ((l.take g.1).map dgt))]) (fun g => g.1 ≤ l.length ∧ BldP b g.2.1 ∧ Hd0 (slv g.2.2)) (fun g => l.length - g.1) (0, .pointer none, (none, 0, 0)) rfl ⟨Nat.zero_le _, .inl rfl, .inl rfl⟩ (fun w s => s.perm (.swap _ _ _)) ?_
  rintro ⟨i, p, q⟩ ⟨hi, hp, hq⟩ cont hc
  dsimp only at *
  (repeat (first | refine G.step ?_ | (refine G.jk ?_; intro _)))
  refine G.ifd ?_ ?_ <;> intro hlt
  · have h1 : i < l.length := by omega
    have hn := hb _ (List.getElem_mem h1)
    have hsn : (l.take (i + 1)).map dgt = (l.take i).map dgt ++ [dgt l[i]] := by rw [← List.take_append_getElem h1, List.map_append]; rfl
    refine Gs.indexE hr h1 ?_
    intro b' o' hp'
    refine Gs.loadE hp' ?_
    refine Gs.callv0 (Itoa_ok _ h (by omega) (by omega) hE) ?_
    rw [itoa_dgt _ hn]
    refine wstr_call (l := (l.take i).map dgt) [dgt l[i]] hp hq (by simp; omega) (by simp) ?_
    intro q' hq'
    (repeat (refine G.add (by omega) ?_))
    rw [← hsn]
    exact Gs.go (hc (i + 1, ptr b 0, q') ⟨by dsimp only; omega, .inr rfl, hq'⟩ (by dsimp only; omega)) rfl
  · have : i = l.length := by omega
    subst this
    rw [List.take_length]
    refine bstr_call (l := l.map dgt) hq (by simp; omega) ?_
    exact Gs.ret rfl
theorem print_ok (x : GmH) (g : Gm) (y : PosH) (p : Pt) (h : Hp) (hE : Env h) (hp : posR h y p) (hs : smallP p) (hs2 : p.c.length ≤ 1000 ∧ p.a.length ≤ 1000 ∧ p.b.length ≤ 1000) (ho : OkT p) : Ct Tryz.prog 31 [vGm g x, vPos y] h (fun _ r => r = Str (txt p)) := by
  obtain ⟨ya, yb, yc, yr, ys⟩ := y
  obtain rfl : yr = p.r := hp.r
  obtain rfl : ys = p.s := hp.s
  change Ct Tryz.prog 31 [vGm g x, .agg #[slv ya, slv yb, slv yc, I p.r, I p.s]] h _
  refine ct31 ?_
  intro w0
  unfold s31
  obtain ⟨s1, s2, s3⟩ := hs2
  (repeat (first | refine G.step ?_ | (refine Gs.box ?_; intro _) | (refine Gs.alloc ?_; intro _)))
  rename_i gb pb b
  refine Gs.lenE hp.c (by omega) ?_
  refine Gs.nilsl 5 1 ?_
  refine Gs.lp (β := Nat × Value × SlH) (fun g => I g.1) (fun _ => h) (fun g => [.blk b [g.2.1, slv g.2.2] 116, .sl (slv g.2.2) 5 1 (fl eByte ((p.c.take g.1).map sgn)), .blk pb [slv ya, slv yb, slv yc, I p.r, I p.s] 44]) (fun g => g.1 ≤ p.c.length ∧ BldP b g.2.1 ∧ Hd0 (slv g.2.2)) (fun g => p.c.length - g.1) (0, .pointer none, (none, 0, 0)) rfl ⟨Nat.zero_le _, .inl rfl, .inl rfl⟩ (fun w s => (s.perm (.swap _ _ _)).sub (by simp [fl])) ?_
  rintro ⟨i, pp, q⟩ ⟨hi, hpp, hq⟩ cont hc
  dsimp only at *
  (repeat (first | refine G.step ?_ | (refine G.jk ?_; intro _)))
  refine G.ifd ?_ ?_ <;> intro hlt
  · have h1 : i < p.c.length := by omega
    have hn := ho.c _ (List.getElem_mem h1)
    have hsn : (p.c.take (i + 1)).map sgn = (p.c.take i).map sgn ++ [sgn p.c[i]] := by rw [← List.take_append_getElem h1, List.map_append]; rfl
    refine Gs.indexE hp.c h1 ?_
    intro b' o' hp'
    refine Gs.loadE hp' ?_
    refine Gs.callv0 (sign_ok _ h hn) ?_
    refine wbyte_call (l := (p.c.take i).map sgn) (sgn p.c[i]) hpp hq (by simp; omega) ?_
    intro q' hq'
    (repeat (refine G.add (by omega) ?_))
    rw [← hsn]
    exact Gs.go (hc (i + 1, ptr b 0, q') ⟨by dsimp only; omega, .inr rfl, hq'⟩ (by dsimp only; omega)) rfl
  · have : i = p.c.length := by omega
    subst this
    rw [List.take_length]
    (repeat (first | refine Gs.dr ?_ | refine G.qkp ?_ | refine Gs.qkb ?_))
    refine bstr_call (l := p.c.map sgn) hq (by simp; omega) ?_
    (repeat (first | refine G.withT ?_ | refine Gs.withb ?_))
    refine Gs.callv0 (digits_ok p.a _ h hE hp.a (by omega) ho.a) ?_
    (repeat (first | refine G.withT ?_ | refine Gs.withb ?_))
    refine Gs.callv0 (digits_ok p.b _ h hE hp.b (by omega) ho.b) ?_
    (repeat (first | refine G.withT ?_ | refine Gs.withb ?_))
    have hr := ho.r
    have hss := ho.s
    refine Gs.callv0 (Itoa_ok _ h (by omega) (by omega) hE) ?_
    (repeat (first | refine G.withT ?_ | refine Gs.withb ?_))
    refine Gs.callv0 (Itoa_ok _ h (by omega) (by omega) hE) ?_
    rw [itoa_dgt _ hr, itoa_dgt _ hss]
    refine Gs.buildSlice (by decide) ?_
    intro b1
    refine Gs.freezeE (v := .slice (some ⟨b1, 0, none⟩) 5 5) (enc := eStr) (l := [p.c.map sgn, p.a.map dgt, p.b.map dgt, [dgt p.r], [dgt p.s]]) (by decide) ?_
    intro h1 hle1 r1
    refine Gs.callv0 (Join_ok _ _ h1 r1 (by simp) (by simp) (by rw [← txt_join, txt_len]; omega)) ?_
    exact Gs.ret (by rw [← txt_join])
theorem rprint_ok (x : GmH) (g : Gm) (y : PosH) (p : Pt) (h : Hp) (hp : posR h y p) (hs2 : p.c.length ≤ 1000 ∧ p.a.length ≤ 1000 ∧ p.b.length ≤ 1000) (ho : OkT p) : Ct Tryz.prog 14 [vGm g x, vPos y] h (fun _ r => r = Str (txt p)) := by
  obtain ⟨ya, yb, yc, yr, ys⟩ := y
  obtain rfl : yr = p.r := hp.r
  obtain rfl : ys = p.s := hp.s
  change Ct Tryz.prog 14 [vGm g x, .agg #[slv ya, slv yb, slv yc, I p.r, I p.s]] h _
  refine ct14 ?_
  intro w0
  unfold s14
  obtain ⟨s1, s2, s3⟩ := hs2
  (repeat (refine Gs.box ?_; intro _))
  rename_i gb pb
  refine Gs.lp (β := Nat) (fun i => (Str ((p.c.take i).map sgn), I i)) (fun _ => h) (fun _ => [.blk pb [slv ya, slv yb, slv yc, I p.r, I p.s] 44]) (fun i => i ≤ p.c.length) (fun i => p.c.length - i) 0 rfl (Nat.zero_le _) (fun w s => s.sub (by simp)) ?_
  intro i hi cont hc
  (repeat (first | refine G.step ?_ | (refine G.jk ?_; intro _)))
  refine Gs.lenE hp.c (by omega) ?_
  (repeat (refine G.step ?_))
  refine G.ifd ?_ ?_ <;> intro hlt
  · have h1 : i < p.c.length := by omega
    have hn := ho.c _ (List.getElem_mem h1)
    have hsn : (p.c.take (i + 1)).map sgn = (p.c.take i).map sgn ++ [sgn p.c[i]] := by rw [← List.take_append_getElem h1, List.map_append]; rfl
    (repeat (refine G.step ?_))
    refine Gs.indexE hp.c h1 ?_
    intro b' o' hp'
    refine Gs.loadE hp' ?_
    refine Gs.callv0 (rsign_ok _ h hn) ?_
    refine G.sadd ⟨by simp; omega, by simp⟩ ?_
    (repeat (refine G.add (by omega) ?_))
    rw [← hsn]
    exact Gs.go (hc (i + 1) (by omega) (by omega)) rfl
  · have : i = p.c.length := by omega
    subst this
    rw [List.take_length]
    let o : Nat → List UInt8 := fun s => if s = 0 then p.c.map sgn else if s = 1 then p.c.map sgn ++ [47] ++ p.a.map dgt else p.c.map sgn ++ [47] ++ p.a.map dgt ++ [47] ++ p.b.map dgt
    refine Gs.lp (β := Nat) (fun s => (Str (o s), I s)) (fun _ => h) (fun _ => [.blk pb [slv ya, slv yb, slv yc, I p.r, I p.s] 44]) (fun s => s ≤ 2) (fun s => 2 - s) 0 rfl (by decide) (fun w s => s) ?_
    intro s hs cont hc
    (repeat (first | refine G.step ?_ | (refine G.jk ?_; intro _)))
    refine G.ifd ?_ ?_ <;> intro hlt
    · have hsc : s = 0 ∨ s = 1 := by omega
      rcases hsc with rfl | rfl
      · have e0 : o 0 = p.c.map sgn := rfl
        rw [e0]
        refine G.sadd ⟨by simp; omega, by simp⟩ ?_
        refine Gs.lp (β := Nat) (fun k => (Str (p.c.map sgn ++ [47] ++ (p.a.take k).map dgt), I k)) (fun _ => h) (fun _ => [.blk pb [slv ya, slv yb, slv yc, I p.r, I p.s] 44]) (fun k => k ≤ p.a.length) (fun k => p.a.length - k) 0 (by simp) (Nat.zero_le _) (fun w s => s) ?_
        intro k hk cont2 hc2
        (repeat (first | refine G.step ?_ | (refine G.jk ?_; intro _)))
        simp only [Int.natCast_zero]
        (repeat (refine G.step ?_))
        refine Gs.lenE hp.a (by omega) ?_
        (repeat (refine G.step ?_))
        refine G.ifd ?_ ?_ <;> intro hlt2
        · have h1 : k < p.a.length := by omega
          have hn := ho.a _ (List.getElem_mem h1)
          have hsn : (p.a.take (k + 1)).map dgt = (p.a.take k).map dgt ++ [dgt p.a[k]] := by rw [← List.take_append_getElem h1, List.map_append]; rfl
          (repeat (refine G.step ?_))
          refine Gs.indexE hp.a h1 ?_
          intro b' o' hp'
          refine Gs.loadE hp' ?_
          refine Gs.callv0 (decimal_ok _ h hn) ?_
          refine G.sadd ⟨by simp; omega, by simp⟩ ?_
          (repeat (refine G.add (by omega) ?_))
          rw [List.append_assoc, ← hsn]
          exact Gs.go (hc2 (k + 1) (by omega) (by omega)) rfl
        · have : k = p.a.length := by omega
          subst this
          rw [List.take_length]
          (repeat (refine G.add (by omega) ?_))
          exact Gs.go (hc 1 (by decide) (by decide)) rfl
      · have e0 : o 1 = p.c.map sgn ++ [47] ++ p.a.map dgt := rfl
        rw [e0]
        refine G.sadd ⟨by simp; omega, by simp⟩ ?_
        refine Gs.lp (β := Nat) (fun k => (Str (p.c.map sgn ++ [47] ++ p.a.map dgt ++ [47] ++ (p.b.take k).map dgt), I k)) (fun _ => h) (fun _ => [.blk pb [slv ya, slv yb, slv yc, I p.r, I p.s] 44]) (fun k => k ≤ p.b.length) (fun k => p.b.length - k) 0 (by simp) (Nat.zero_le _) (fun w s => s) ?_
        intro k hk cont2 hc2
        (repeat (first | refine G.step ?_ | (refine G.jk ?_; intro _)))
        simp only [Int.natCast_one]
        (repeat (refine G.step ?_))
        refine Gs.lenE hp.b (by omega) ?_
        (repeat (refine G.step ?_))
        refine G.ifd ?_ ?_ <;> intro hlt2
        · have h1 : k < p.b.length := by omega
          have hn := ho.b _ (List.getElem_mem h1)
          have hsn : (p.b.take (k + 1)).map dgt = (p.b.take k).map dgt ++ [dgt p.b[k]] := by rw [← List.take_append_getElem h1, List.map_append]; rfl
          (repeat (refine G.step ?_))
          refine Gs.indexE hp.b h1 ?_
          intro b' o' hp'
          refine Gs.loadE hp' ?_
          refine Gs.callv0 (decimal_ok _ h hn) ?_
          refine G.sadd ⟨by simp; omega, by simp⟩ ?_
          (repeat (refine G.add (by omega) ?_))
          rw [List.append_assoc, ← hsn]
          exact Gs.go (hc2 (k + 1) (by omega) (by omega)) rfl
        · have : k = p.b.length := by omega
          subst this
          rw [List.take_length]
          (repeat (refine G.add (by omega) ?_))
          exact Gs.go (hc 2 (by decide) (by decide)) rfl
    · have : s = 2 := by omega
      subst this
      have e0 : o 2 = p.c.map sgn ++ [47] ++ p.a.map dgt ++ [47] ++ p.b.map dgt := rfl
      rw [e0]
      refine Gs.dr ?_
      refine G.qsadd ⟨by simp; omega, by simp⟩ ?_
      (repeat (first | refine G.qkp ?_ | refine Gs.qkb ?_))
      refine Gs.callv0 (decimal_ok _ h ho.r) ?_
      (repeat (first | refine G.withT ?_ | refine Gs.withb ?_))
      refine G.qsadd ⟨by simp; omega, by simp⟩ ?_
      refine G.qsadd ⟨by simp; omega, by simp⟩ ?_
      refine Gs.callv0 (decimal_ok _ h ho.s) ?_
      (repeat (refine G.withT ?_))
      refine G.qsadd ⟨by simp; omega, by simp⟩ ?_
      refine Gs.ret ?_
      unfold txt
      simp
end Go.Proofs.YtcmokdokcghooaaGreatDoor
end

section
set_option linter.unusedVariables false
set_option maxHeartbeats 4000000
namespace Go.Proofs.YtcmokdokcghooaaGreatDoor
open Go Go.Sk Go.Pr Go.Ps Go.RowKit
variable {w0 : World} {h0 h : Hp} {L : List Itm} {K : Value → WP}
theorem u8lt (b : UInt8) : (b.toNat : Int) ≤ 255 := by have := b.toNat_lt; omega
theorem rdS_up {b : UInt8} (h : 65 ≤ b.toNat ∧ b.toNat ≤ 90) : rdS b = 1 + 2 * ((b.toNat : Int) - 65) := by unfold rdS; rw [if_neg (by omega), if_pos h]
theorem rdS_lo {b : UInt8} (h : 97 ≤ b.toNat ∧ b.toNat ≤ 122) : rdS b = 2 + 2 * ((b.toNat : Int) - 97) := by unfold rdS; rw [if_neg (by omega), if_neg (by omega), if_pos h]
theorem rdS_no {b : UInt8} (h1 : b.toNat ≠ 46) (h2 : ¬ (65 ≤ b.toNat ∧ b.toNat ≤ 90)) (h3 : ¬ (97 ≤ b.toNat ∧ b.toNat ≤ 122)) : rdS b = -1 := by unfold rdS; rw [if_neg h1, if_neg h2, if_neg h3]
theorem contents_ok (s : List UInt8) (h : Hp) (hs : s.length ≤ 100000) : Ct Tryz.prog 44 [Str s] h (fun h' v => RdE h' v eInt 1 (s.map rdS)) := by
  refine ct44 ?_
  intro w0
  unfold s44
  (repeat (refine G.step ?_))
  refine Gs.nilsl 3 1 ?_
  refine Gs.lp (β := Nat × Value) (fun g => (g.2, I g.1)) (fun _ => h) (fun g => [.sl g.2 3 1 (fl eInt ((s.take g.1).map rdS))]) (fun g => g.1 ≤ s.length) (fun g => s.length - g.1) (0, .slice none 0 0) rfl (Nat.zero_le _) (fun w s => s.sub (by simp [fl])) ?_
  rintro ⟨i, v⟩ hi cont hc
  dsimp only at *
  (repeat (first | refine G.step ?_ | (refine G.jk ?_; intro _)))
  refine G.ifd ?_ ?_ <;> intro hlt
  · have h1 : i < s.length := by omega
    have hb := u8lt s[i]
    have hsn : (s.take (i + 1)).map rdS = (s.take i).map rdS ++ [rdS s[i]] := by rw [← List.take_append_getElem h1, List.map_append]; rfl
    refine G.jnP (fun j => j = I (rdS s[i])) ?_ ?_
    · rintro a rfl
      refine G.jk ?_; intro _
      refine Gs.push (enc := eInt) (l := (s.take i).map rdS) (a := rdS s[i]) (by decide) (by decide) (by simp; omega) (by simp; omega) ?_
      intro _ v3
      (repeat (refine G.add (by omega) ?_))
      rw [← hsn]
      exact Gs.go (hc (i + 1, v3) (by dsimp only; omega) (by dsimp only; omega)) rfl
    · intro K hK
      refine G.sindexN h1 ?_
      refine G.conv (by omega) ?_
      (repeat (refine G.step ?_))
      refine G.ifd ?_ ?_ <;> intro q1
      · exact hK _ (by unfold rdS; rw [if_pos (by omega)])
      · refine G.jnP (fun j => j = .bool (decide (65 ≤ s[i].toNat ∧ s[i].toNat ≤ 90))) ?_ ?_
        · rintro a rfl
          refine G.jk ?_; intro _
          refine G.ifd ?_ ?_ <;> intro q2
          · (repeat (first | refine G.add (by omega) ?_ | refine G.sub (by omega) ?_ | refine G.mul (by omega) ?_))
            exact hK _ (by rw [rdS_up q2])
          · refine G.jnP (fun j => j = .bool (decide (97 ≤ s[i].toNat ∧ s[i].toNat ≤ 122))) ?_ ?_
            · rintro a rfl
              refine G.jk ?_; intro _
              refine G.ifd ?_ ?_ <;> intro q3
              · (repeat (first | refine G.add (by omega) ?_ | refine G.sub (by omega) ?_ | refine G.mul (by omega) ?_))
                exact hK _ (by rw [rdS_lo q3])
              · exact hK _ (by rw [rdS_no (by omega) q2 q3])
            · intro K' hK'
              (repeat (refine G.step ?_))
              refine G.gddt ?_ ?_ <;> intro q4
              · (repeat (refine G.step ?_))
                exact hK' _ (by congr 1; rw [decide_eq_decide]; omega)
              · exact hK' _ (by rw [decide_eq_false (by omega)])
        · intro K' hK'
          (repeat (refine G.step ?_))
          refine G.gddt ?_ ?_ <;> intro q4
          · (repeat (refine G.step ?_))
            exact hK' _ (by congr 1; rw [decide_eq_decide]; omega)
          · exact hK' _ (by rw [decide_eq_false (by omega)])
  · have : i = s.length := by omega
    subst this
    rw [List.take_length]
    refine Gs.freezeE (v := v) (enc := eInt) (l := s.map rdS) (by decide) ?_
    intro h' hle hr
    exact Gs.ret hr
theorem numbers9_ok (s : List UInt8) (h : Hp) (hs : s.length ≤ 100000) : Ct Tryz.prog 45 [Str s] h (fun h' v => RdE h' v eInt 1 (s.map rdD)) := by
  refine ct45 ?_
  intro w0
  unfold s45
  (repeat (refine G.step ?_))
  refine Gs.nilsl 3 1 ?_
  refine Gs.lp (β := Nat × Value) (fun g => (g.2, I g.1)) (fun _ => h) (fun g => [.sl g.2 3 1 (fl eInt ((s.take g.1).map rdD))]) (fun g => g.1 ≤ s.length) (fun g => s.length - g.1) (0, .slice none 0 0) rfl (Nat.zero_le _) (fun w s => s.sub (by simp [fl])) ?_
  rintro ⟨i, v⟩ hi cont hc
  dsimp only at *
  (repeat (first | refine G.step ?_ | (refine G.jk ?_; intro _)))
  refine G.ifd ?_ ?_ <;> intro hlt
  · have h1 : i < s.length := by omega
    have hb := u8lt s[i]
    have hsn : (s.take (i + 1)).map rdD = (s.take i).map rdD ++ [rdD s[i]] := by rw [← List.take_append_getElem h1, List.map_append]; rfl
    refine G.sindexN h1 ?_
    refine G.conv (by omega) ?_
    refine G.sub (by omega) ?_
    refine Gs.push (enc := eInt) (l := (s.take i).map rdD) (a := rdD s[i]) (by decide) (by decide) (by simp; omega) (by simp; omega) ?_
    intro _ v3
    (repeat (refine G.add (by omega) ?_))
    rw [← hsn]
    exact Gs.go (hc (i + 1, v3) (by dsimp only; omega) (by dsimp only; omega)) rfl
  · have : i = s.length := by omega
    subst this
    rw [List.take_length]
    refine Gs.freezeE (v := v) (enc := eInt) (l := s.map rdD) (by decide) ?_
    intro h' hle hr
    exact Gs.ret hr
theorem posR_zero (h : Hp) : posR h ((none, 0, 0), (none, 0, 0), (none, 0, 0), 0, 0) zeroP := ⟨RdE.nil _ _ _, RdE.nil _ _ _, RdE.nil _ _ _, rfl, rfl, by decide, by decide, by decide⟩
def ParsePost (g : Gm) (s : List UInt8) (h' : Hp) (v : Value) : Prop := ∃ (y : PosH) (q : Pt) (e : Int), v = .tuple #[vPos y, I e] ∧ posR h' y q ∧ ParseR g s q e
/-- Whether five parts are those of a valid position. -/
theorem parse_parts {g : Gm} {s l0 l1 l2 l3 l4 : List UInt8} (hk : g.kinds.length ≤ 2) (hr : g.rights ≤ 2) (hs : spl s = [l0, l1, l2, l3, l4]) {p : Pt} (hv : ValidS g p) (ht : txt p = s) : Lib.atoiAll l3 = .ok p.r ∧ Lib.atoiAll l4 = .ok p.s ∧ l0.map rdS = p.c ∧ l1.map rdD = p.a ∧ l2.map rdD = p.b := by
  have ho := hv.ok hk hr
  rw [← ht, spl_txt ho] at hs
  simp only [List.cons.injEq, and_true] at hs
  obtain ⟨rfl, rfl, rfl, rfl, rfl⟩ := hs
  exact ⟨atoi_dgt ho.r, atoi_dgt ho.s, map_back _ (fun n hn => (rdS_sgn (ho.c n hn)).1), map_back _ (fun n hn => (rdD_dgt (ho.a n hn)).1), map_back _ (fun n hn => (rdD_dgt (ho.b n hn)).1)⟩
end Go.Proofs.YtcmokdokcghooaaGreatDoor
end

section
set_option linter.unusedVariables false
set_option maxHeartbeats 8000000
namespace Go.Proofs.YtcmokdokcghooaaGreatDoor
open Go Go.Sk Go.Pr Go.Ps Go.RowKit
variable {w0 : World} {h0 h : Hp} {L : List Itm} {K : Value → WP}
theorem contents_call (s : List UInt8) (hs : s.length ≤ 100000) (hk : ∀ (x : SlH) h', Hle h h' → RdE h' (slv x) eInt 1 (s.map rdS) → Gs w0 h0 h' L (K (slv x))) : Gs w0 h0 h L (Do Tryz.prog (vCall (.func (.func 44) #[] ⟨[]⟩) [Str s]) K) :=
  Gs.call0 (contents_ok s h hs) fun v h' hle hr => by
    obtain ⟨x, rfl⟩ := hr.hdr
    exact hk x h' hle hr
theorem numbers_call (s : List UInt8) (hs : s.length ≤ 100000) (hk : ∀ (x : SlH) h', Hle h h' → RdE h' (slv x) eInt 1 (s.map rdD) → Gs w0 h0 h' L (K (slv x))) : Gs w0 h0 h L (Do Tryz.prog (vCall (.func (.func 45) #[] ⟨[]⟩) [Str s]) K) :=
  Gs.call0 (numbers9_ok s h hs) fun v h' hle hr => by
    obtain ⟨x, rfl⟩ := hr.hdr
    exact hk x h' hle hr
theorem parse_ok (g : Gm) (x : GmH) (s : List UInt8) (h : Hp) (hE : Env h) (hg : gmR h x g) (hG : GoodG g) (hs : s.length ≤ 1000) : Ct Tryz.prog 16 [vGm g x, Str s] h (ParsePost g s) := by
  refine ct16 ?_
  intro w0
  unfold s16
  have hk2 := hG.k.l2
  have hr2 := hG.r
  (repeat (first | (refine Gs.box ?_; intro _) | (refine Gs.alloc ?_; intro _)))
  rename_i gb tb
  refine Gs.call0 (Split_ok s h hE (by omega)) ?_
  intro v h1 hle1 r1
  have hE1 := hE.mono hle1
  have hg1 := hg.mono hle1
  have hlen : ∀ l ∈ spl s, l.length ≤ 1000 := fun l hl => Nat.le_trans ((spl_lens s).2 l hl) hs
  have hspl := (spl_lens s).1
  refine G.jnP (fun j => j = .bool (!decide ((spl s).length = 5))) ?_ ?_
  · rintro a rfl
    refine G.jk ?_; intro _
    by_cases h5 : (spl s).length = 5
    · rw [decide_eq_true h5]
      obtain ⟨l0, l1, l2, l3, l4, hsp⟩ : ∃ l0 l1 l2 l3 l4, spl s = [l0, l1, l2, l3, l4] := by
        match spl s, h5 with
        | [a, b, c, d, e], _ => exact ⟨a, b, c, d, e, rfl⟩
      rw [hsp] at r1 hlen
      have g0 := hlen l0 (by simp)
      have g1 := hlen l1 (by simp)
      have g2 := hlen l2 (by simp)
      have g3 := hlen l3 (by simp)
      have g4 := hlen l4 (by simp)
      (repeat (refine G.iff ?_))
      refine Gs.indexE (i := 3) r1 (by simp) ?_
      intro b3 o3 p3
      refine Gs.loadE p3 ?_
      refine Gs.call0 (Atoi_ok l3 h1 hE1 (by omega)) ?_
      rintro _ h2 hle2 ⟨n3, e3, rfl, hn3, hn3', he3⟩
      (repeat (refine G.step ?_))
      have r1 := r1.mono hle2
      refine Gs.indexE (i := 4) r1 (by simp) ?_
      intro b4 o4 p4
      refine Gs.loadE p4 ?_
      have hE2 := hE1.mono hle2
      refine Gs.call0 (Atoi_ok l4 h2 hE2 (by omega)) ?_
      rintro _ h3 hle3 ⟨n4, e4, rfl, hn4, hn4', he4⟩
      (repeat (refine G.step ?_))
      have r1 := r1.mono hle3
      have hE3 := hE2.mono hle3
      have hg3 := (hg1.mono hle2).mono hle3
      clear hE hE1 hE2 hg hg1 p3 p4
      refine G.jnk (fun a S' => ∃ (pb : Nat) (y : PosH) (h' : Hp), a = ptr pb 0 ∧ Hle h3 h' ∧ posR h' y ⟨l0.map rdS, l1.map rdD, l2.map rdD, n3, n4⟩ ∧ S' = St w0 h h' [.blk pb [slv y.1, slv y.2.1, slv y.2.2.1, I y.2.2.2.1, I y.2.2.2.2] 44, .blk tb [.slice none 0 0, .slice none 0 0, .slice none 0 0, I 0, I 0] 44, .blk gb [I g.cells, slv x.1, slv x.2.1, slv x.2.2.1, I g.rights, .bool g.must, slv x.2.2.2, I g.blocked, I g.endless] 39]) ?_ ?_
      · rintro a _ ⟨pb, y, h', rfl, hle4, hp, rfl⟩
        have hE4 := hE3.mono hle4
        have hg4 := hg3.mono hle4
        refine G.jk ?_; intro _
        have bad : (∀ p, ValidS g p → txt p ≠ s) → ∀ j, j = Value.bool true → Gs w0 h h' [.blk pb [slv y.1, slv y.2.1, slv y.2.2.1, I y.2.2.2.1, I y.2.2.2.2] 44, .blk tb [.slice none 0 0, .slice none 0 0, .slice none 0 0, I 0, I 0] 44, .blk gb [I g.cells, slv x.1, slv x.2.1, slv x.2.2.1, I g.rights, .bool g.must, slv x.2.2.2, I g.blocked, I g.endless] 39] (Jk fun _ =>
            If j (
              Do Tryz.prog (vBuild 44 []) fun t19_72 =>
              Do Tryz.prog (U (Instr.storeAt 44 (ptr tb 0) t19_72)) fun t20_x =>
              RetC Tryz.prog 44 (ptr tb 0) fun r => RetP w0 h (ParsePost g s) (.tuple #[r, (.int .i64 3)])
            ) (
              Do Tryz.prog (V (Instr.loadAt 44 (ptr pb 0))) fun t21_73 =>
              Do Tryz.prog (U (Instr.storeAt 44 (ptr tb 0) t21_73)) fun t22_x =>
              RetC Tryz.prog 44 (ptr tb 0) fun r => RetP w0 h (ParsePost g s) (.tuple #[r, (.int .i64 0)])
            )) := by
          rintro hno j rfl
          refine G.jk ?_; intro _
          (repeat (first | refine G.step ?_ | refine Gs.store ?_ | refine G.retc ?_ | refine G.ift ?_))
          exact Gs.ret ⟨_, _, 3, rfl, posR_zero _, .inr ⟨rfl, rfl, hno⟩⟩
        rcases he3 with ⟨rfl, he3⟩ | ⟨⟨tp3, N3, rfl⟩, he3⟩
        · rcases he4 with ⟨rfl, he4⟩ | ⟨⟨tp4, N4, rfl⟩, he4⟩
          · have hval : ∀ p, ValidS g p → txt p = s → p = ⟨l0.map rdS, l1.map rdD, l2.map rdD, n3, n4⟩ := fun p hv ht => by
              obtain ⟨w1, w2, w3, w4, w5⟩ := parse_parts hk2 hr2 hsp hv ht
              rw [he3] at w1
              rw [he4] at w2
              cases w1; cases w2
              cases p
              simp_all
            generalize (⟨l0.map rdS, l1.map rdD, l2.map rdD, n3, n4⟩ : Pt) = q at *
            refine G.jnP (fun j => j = .bool (!(validP g q && decide (txt q = s)))) ?_ ?_
            · rintro j rfl
              by_cases hok : ValidS g q ∧ txt q = s
              · rw [validP_iff.2 hok.1, decide_eq_true hok.2]
                refine G.jk ?_; intro _
                (repeat (first | refine G.step ?_ | refine Gs.store ?_ | refine G.retc ?_ | refine G.iff ?_))
                exact Gs.ret ⟨y, q, 0, rfl, hp, .inl ⟨rfl, hok.1, hok.2⟩⟩
              · refine bad (fun p hv ht => hok ?_) _ ?_
                · rw [← hval p hv ht]; exact ⟨hv, ht⟩
                · congr 1
                  rw [Bool.not_eq_true', Bool.and_eq_false_iff]
                  by_cases hv : ValidS g q
                  · exact .inr (decide_eq_false fun e => hok ⟨hv, e⟩)
                  · left
                    cases hvp : validP g q
                    · rfl
                    · exact absurd (validP_iff.1 hvp) hv
            · intro K hK
              (repeat (first | refine G.step ?_ | refine G.gdff ?_))
              refine Gs.callv0 (pvalid_ok g x y q h' hg4 (by omega) (by omega) (by have := hG.b.c9; omega) hp) ?_
              (repeat (refine G.step ?_))
              refine G.gdbf ?_ ?_ <;> intro hv
              · simp only [Bool.not_eq_true'] at hv
                exact hK _ (by rw [hv]; rfl)
              · simp only [Bool.not_eq_false'] at hv
                have hvs := validP_iff.1 hv
                obtain ⟨z1, z2, z3⟩ := hvs.lens
                have hc9 := hG.b.c9
                (repeat (refine G.step ?_))
                refine Gs.callv0 (print_ok x g y q h' hE4 hp ⟨by omega, by omega, by omega⟩ ⟨by omega, by omega, by omega⟩ (hvs.ok hk2 hr2)) ?_
                (repeat (refine G.step ?_))
                exact hK _ (by rw [hv, Bool.true_and, ← decide_not])
          · refine G.jnP (fun j => j = .bool true) (bad fun p hv ht => ?_) ?_
            · exact he4 _ (parse_parts hk2 hr2 hsp hv ht).2.1
            · intro K hK
              (repeat (first | refine G.step ?_ | refine G.gdff ?_ | refine G.gdtf ?_))
              exact hK _ rfl
        · refine G.jnP (fun j => j = .bool true) (bad fun p hv ht => ?_) ?_
          · exact he3 _ (parse_parts hk2 hr2 hsp hv ht).1
          · intro K hK
            (repeat (first | refine G.step ?_ | refine G.gdtf ?_))
            exact hK _ rfl
      · intro k' hk'
        (repeat (refine Gs.dr ?_))
        refine Gs.qindexE (i := 0) r1 (by simp) ?_
        intro b0 o0 p0
        refine Gs.qloadE p0 ?_
        refine Gs.qindexE (i := 1) r1 (by simp) ?_
        intro b1 o1 p1
        refine Gs.qloadE p1 ?_
        refine Gs.qindexE (i := 2) r1 (by simp) ?_
        intro b2 o2 p2
        refine Gs.qloadE p2 ?_
        have fin : ∀ (x0 x1 x2 : SlH) (h6 : Hp) (pb : Nat), Hle h3 h6 → RdE h6 (slv x0) eInt 1 (l0.map rdS) → RdE h6 (slv x1) eInt 1 (l1.map rdD) → RdE h6 (slv x2) eInt 1 (l2.map rdD) → Gs w0 h h6 [.blk pb [slv x0, slv x1, slv x2, I n3, I n4] 44, .blk tb [.slice none 0 0, .slice none 0 0, .slice none 0 0, I 0, I 0] 44, .blk gb [I g.cells, slv x.1, slv x.2.1, slv x.2.2.1, I g.rights, .bool g.must, slv x.2.2.2, I g.blocked, I g.endless] 39] (k' (ptr pb 0)) := fun x0 x1 x2 h6 pb hle q0 q1 q2 =>
          hk' _ _ ⟨pb, (x0, x1, x2, n3, n4), h6, rfl, hle, ⟨q0, q1, q2, rfl, rfl, by simp; omega, by simp; omega, by simp; omega⟩, rfl⟩
        refine G.or2 ?_ ?_
        · refine contents_call l0 (by omega) ?_
          intro x0 h4 hle4 q0
          repeat (first | refine G.withT ?_ | refine Gs.withf hle4 ?_)
          refine G.or2 ?_ ?_
          · refine numbers_call l1 (by omega) ?_
            intro x1 h5 hle5 q1
            repeat (first | refine G.withT ?_ | refine Gs.withf (hle4.trans hle5) ?_)
            refine G.or2 ?_ ?_
            · refine numbers_call l2 (by omega) ?_
              intro x2 h6 hle6 q2
              refine G.qbuildA (by rfl) ?_
              refine G.qkp ?_
              refine Gs.alloc ?_
              intro pb
              repeat (first | refine G.withT ?_ | refine Gs.withf (hle4.trans (hle5.trans hle6)) ?_)
              refine Gs.store ?_
              exact fin x0 x1 x2 h6 pb (hle4.trans (hle5.trans hle6)) ((q0.mono hle5).mono hle6) (q1.mono hle6) q2
            · refine Gs.alloc ?_
              intro pb
              repeat (first | refine G.withT ?_ | refine Gs.withf (hle4.trans hle5) ?_)
              refine numbers_call l2 (by omega) ?_
              intro x2 h6 hle6 q2
              refine G.qbuildA (by rfl) ?_
              refine G.qkp ?_
              refine Gs.store ?_
              exact fin x0 x1 x2 h6 pb (hle4.trans (hle5.trans hle6)) ((q0.mono hle5).mono hle6) (q1.mono hle6) q2
          · refine Gs.alloc ?_
            intro pb
            repeat (first | refine G.withT ?_ | refine Gs.withf hle4 ?_)
            refine numbers_call l1 (by omega) ?_
            intro x1 h5 hle5 q1
            repeat (first | refine G.withT ?_ | refine Gs.withf (hle4.trans hle5) ?_)
            refine numbers_call l2 (by omega) ?_
            intro x2 h6 hle6 q2
            refine G.qbuildA (by rfl) ?_
            refine G.qkp ?_
            refine Gs.store ?_
            exact fin x0 x1 x2 h6 pb (hle4.trans (hle5.trans hle6)) ((q0.mono hle5).mono hle6) (q1.mono hle6) q2
        · refine Gs.alloc ?_
          intro pb
          repeat (first | refine G.withT ?_ | refine Gs.withf (Hle.refl _) ?_)
          refine contents_call l0 (by omega) ?_
          intro x0 h4 hle4 q0
          repeat (first | refine G.withT ?_ | refine Gs.withf hle4 ?_)
          refine numbers_call l1 (by omega) ?_
          intro x1 h5 hle5 q1
          repeat (first | refine G.withT ?_ | refine Gs.withf (hle4.trans hle5) ?_)
          refine numbers_call l2 (by omega) ?_
          intro x2 h6 hle6 q2
          refine G.qbuildA (by rfl) ?_
          refine G.qkp ?_
          refine Gs.store ?_
          exact fin x0 x1 x2 h6 pb (hle4.trans (hle5.trans hle6)) ((q0.mono hle5).mono hle6) (q1.mono hle6) q2
    · rw [decide_eq_false h5]
      (repeat (first | refine G.step ?_ | refine Gs.store ?_ | refine G.retc ?_ | refine G.ift ?_))
      refine Gs.ret ⟨_, _, 3, rfl, posR_zero _, .inr ⟨rfl, rfl, fun p hv ht => ?_⟩⟩
      rw [← ht, spl_txt (hv.ok hk2 hr2)] at h5
      exact h5 rfl
  · intro K hK
    (repeat (refine G.step ?_))
    refine Gs.callv0 (gameValid_ok g x h1 hg1 hG) ?_
    (repeat (first | refine G.step ?_ | refine G.gdff ?_))
    refine Gs.lenE r1 (by omega) ?_
    (repeat (refine G.step ?_))
    refine hK _ ?_
    rw [← decide_not]
    congr 1
    rw [decide_eq_decide]
    omega
end Go.Proofs.YtcmokdokcghooaaGreatDoor
end

section
set_option linter.unusedVariables false
set_option maxHeartbeats 8000000
namespace Go.Proofs.YtcmokdokcghooaaGreatDoor
open Go Go.Sk Go.Pr Go.Ps Go.RowKit
variable {w0 : World} {h0 h : Hp} {L : List Itm} {K : Value → WP}
theorem digit_ok (b : UInt8) (h : Hp) : Ct Tryz.prog 46 [.int .u8 b.toNat] h (fun _ v => v = I (dX b)) := by
  refine ct46 ?_
  intro w0
  unfold s46
  have hb := u8lt b
  refine G.jnP (fun j => j = .bool (!decide (48 ≤ b.toNat ∧ b.toNat ≤ 57))) ?_ ?_
  · rintro a rfl
    refine G.jk ?_; intro _
    by_cases hd : 48 ≤ b.toNat ∧ b.toNat ≤ 57
    · rw [decide_eq_true hd]
      refine G.iff ?_
      refine G.sub8 (by omega) ?_
      refine G.conv (by omega) ?_
      exact Gs.ret (by unfold dX; rw [if_pos hd])
    · rw [decide_eq_false hd]
      refine G.ift ?_
      exact Gs.ret (by unfold dX; rw [if_neg hd])
  · intro K hK
    (repeat (refine G.step ?_))
    refine G.gddf ?_ ?_ <;> intro q
    · exact hK _ (by rw [decide_eq_false (by omega)]; rfl)
    · (repeat (refine G.step ?_))
      refine hK _ ?_
      rw [← decide_not]
      congr 1
      rw [decide_eq_decide]
      omega
def RParsePost (g : Gm) (s : List UInt8) (h' : Hp) (v : Value) : Prop := ∃ (y : PosH) (q : Pt) (e : Int), v = .agg #[slv y.1, slv y.2.1, slv y.2.2.1, I y.2.2.2.1, I y.2.2.2.2, I e] ∧ posR h' y q ∧ ParseR g s q e
theorem rparse_ok (g : Gm) (x : GmH) (s : List UInt8) (h : Hp) (hg : gmR h x g) (hG : GoodG g) (hs : s.length ≤ 1000) : Ct Tryz.prog 17 [vGm g x, Str s] h (RParsePost g s) := by
  refine ct17 ?_
  intro w0
  unfold s17
  have hk2 := hG.k.l2
  have hr2 := hG.r
  have hc9 := hG.b.c9
  have hval : ∀ p, ValidS g p → txt p = s → p = atP g.cells g.kinds.length s ∧ s.length = g.cells + 2 * g.kinds.length + 6 := fun p hv ht => by
    have e := atP_txt hv (by omega) hr2
    obtain ⟨z1, z2, z3⟩ := hv.lens
    have hl := txt_len p
    rw [ht] at e
    rw [ht] at hl
    exact ⟨e.symm, by omega⟩
  (repeat (first | refine G.step ?_ | (refine Gs.box ?_; intro _) | (refine Gs.alloc ?_; intro _) | refine Gs.store ?_))
  rename_i gb tb bb
  refine Gs.lenF hg.k (by omega) ?_
  refine G.jnP (fun j => j = .bool (!decide (g.cells + 2 * g.kinds.length + 6 ≤ s.length ∧ s.length ≤ g.cells + 2 * g.kinds.length + 7))) ?_ ?_
  · rintro a rfl
    refine G.jk ?_; intro _
    by_cases hlen : g.cells + 2 * g.kinds.length + 6 ≤ s.length ∧ s.length ≤ g.cells + 2 * g.kinds.length + 7
    · rw [decide_eq_true hlen]
      (repeat (first | refine G.sub (by omega) ?_ | refine G.step ?_ | refine G.iff ?_))
      have e1 : (s.length : Int) - 1 = ((s.length - 1 : Nat) : Int) := by omega
      rw [e1]
      refine G.sindexN (by omega) ?_
      refine Gs.callv0 (digit_ok _ h) ?_
      have hlast : s.getD (s.length - 1) 0 = s[s.length - 1]'(by omega) := by rw [List.getD_eq_getElem?_getD, List.getElem?_eq_getElem (by omega)]; rfl
      rw [← hlast]
      generalize hS : dX (s.getD (s.length - 1) 0) = S
      (repeat (first | refine G.step ?_ | (refine Gs.alloc ?_; intro _) | refine Gs.store ?_))
      rename_i pb
      refine Gs.nilsl 3 1 ?_
      refine Gs.lp (β := Nat × SlH) (fun u => I u.1) (fun _ => h) (fun u => [.sl (slv u.2) 3 1 (fl eInt ((s.take u.1).map rdX)), .blk pb [slv u.2, .slice none 0 0, .slice none 0 0, I 0, I S] 44, .blk bb [.slice none 0 0, .slice none 0 0, .slice none 0 0, I 0, I 0, I 3] 51, .blk tb [.slice none 0 0, .slice none 0 0, .slice none 0 0, I 0, I 0, I 0] 51, .blk gb [I g.cells, slv x.1, slv x.2.1, slv x.2.2.1, I g.rights, .bool g.must, slv x.2.2.2, I g.blocked, I g.endless] 39]) (fun u => u.1 ≤ g.cells) (fun u => g.cells - u.1) (0, (none, 0, 0)) rfl (Nat.zero_le _) (fun w s => s) ?_
      rintro ⟨i, v⟩ hi cont hc
      dsimp only at *
      (repeat (first | refine G.step ?_ | (refine G.jk ?_; intro _)))
      refine G.ifd ?_ ?_ <;> intro hlt
      · have h1 : i < s.length := by omega
        have hb := u8lt s[i]
        have hsn : (s.take (i + 1)).map rdX = (s.take i).map rdX ++ [rdX s[i]] := by rw [← List.take_append_getElem h1, List.map_append]; rfl
        refine G.jnP (fun j => j = I (x1 s[i])) ?_ ?_
        · rintro a rfl
          refine G.jk ?_; intro _
          refine G.jnP (fun j => j = I (Go.Ps.x2 s[i])) ?_ ?_
          · rintro a rfl
            refine G.jk ?_; intro _
            refine G.jnP (fun j => j = I (rdX s[i])) ?_ ?_
            · rintro a rfl
              refine G.jk ?_; intro _
              (repeat (refine G.step ?_))
              refine Gs.push (enc := eInt) (l := (s.take i).map rdX) (a := rdX s[i]) (by decide) (by decide) (by simp; omega) (by simp; omega) ?_
              intro _ v3
              refine Gs.slH (v := v3) ?_
              rintro q rfl
              (repeat (first | refine G.add (by omega) ?_ | refine G.step ?_ | refine Gs.store ?_))
              rw [← hsn]
              exact Gs.goS (hc (i + 1, q) (by dsimp only; omega) (by dsimp only; omega)) rfl
            · intro K hK
              refine G.jnP (fun j => j = .bool (decide (97 ≤ s[i].toNat ∧ s[i].toNat ≤ 122))) ?_ ?_
              · rintro a rfl
                refine G.jk ?_; intro _
                refine G.ifd ?_ ?_ <;> intro q3
                · refine G.sindexN h1 ?_
                  refine G.sub8 (by omega) ?_
                  refine G.conv (by omega) ?_
                  (repeat (first | refine G.add (by omega) ?_ | refine G.mul (by omega) ?_))
                  exact hK _ (by unfold rdX; rw [if_pos q3])
                · exact hK _ (by unfold rdX; rw [if_neg q3])
              · intro K' hK'
                refine G.sindexN h1 ?_
                (repeat (refine G.step ?_))
                refine G.gddt ?_ ?_ <;> intro q4
                · refine G.sindexN h1 ?_
                  (repeat (refine G.step ?_))
                  exact hK' _ (by congr 1; rw [decide_eq_decide]; omega)
                · exact hK' _ (by rw [decide_eq_false (by omega)])
          · intro K hK
            refine G.jnP (fun j => j = .bool (decide (65 ≤ s[i].toNat ∧ s[i].toNat ≤ 90))) ?_ ?_
            · rintro a rfl
              refine G.jk ?_; intro _
              refine G.ifd ?_ ?_ <;> intro q3
              · refine G.sindexN h1 ?_
                refine G.sub8 (by omega) ?_
                refine G.conv (by omega) ?_
                (repeat (first | refine G.add (by omega) ?_ | refine G.mul (by omega) ?_))
                exact hK _ (by unfold Go.Ps.x2; rw [if_pos q3])
              · exact hK _ (by unfold Go.Ps.x2; rw [if_neg q3])
            · intro K' hK'
              refine G.sindexN h1 ?_
              (repeat (refine G.step ?_))
              refine G.gddt ?_ ?_ <;> intro q4
              · refine G.sindexN h1 ?_
                (repeat (refine G.step ?_))
                exact hK' _ (by congr 1; rw [decide_eq_decide]; omega)
              · exact hK' _ (by rw [decide_eq_false (by omega)])
        · intro K hK
          refine G.sindexN h1 ?_
          (repeat (refine G.step ?_))
          refine G.ifd ?_ ?_ <;> intro q
          · exact hK _ (by unfold Go.Ps.x1; rw [if_pos (by omega)])
          · exact hK _ (by unfold Go.Ps.x1; rw [if_neg (by omega)])
      · have hin : i = g.cells := by omega
        subst hin
        refine Gs.nilsl 3 1 ?_
        refine Gs.nilsl 3 1 ?_
        refine Gs.lp (β := Nat × SlH × SlH) (fun u => I u.1) (fun _ => h) (fun u => [.sl (slv u.2.1) 3 1 (fl eInt (((s.drop (g.cells + 1)).take u.1).map dX)), .sl (slv u.2.2) 3 1 (fl eInt (((s.drop (g.cells + g.kinds.length + 2)).take u.1).map dX)), .sl (slv v) 3 1 (fl eInt ((s.take g.cells).map rdX)), .blk pb [slv v, slv u.2.1, slv u.2.2, I 0, I S] 44, .blk bb [.slice none 0 0, .slice none 0 0, .slice none 0 0, I 0, I 0, I 3] 51, .blk tb [.slice none 0 0, .slice none 0 0, .slice none 0 0, I 0, I 0, I 0] 51, .blk gb [I g.cells, slv x.1, slv x.2.1, slv x.2.2.1, I g.rights, .bool g.must, slv x.2.2.2, I g.blocked, I g.endless] 39]) (fun u => u.1 ≤ g.kinds.length) (fun u => g.kinds.length - u.1) (0, (none, 0, 0), (none, 0, 0)) rfl (Nat.zero_le _) (fun w s => s) ?_
        rintro ⟨i, q1, q2⟩ hi2 cont2 hc2
        dsimp only at *
        (repeat (first | refine G.step ?_ | (refine G.jk ?_; intro _)))
        refine G.ifd ?_ ?_ <;> intro hlt2
        · have hs1 : (s.drop (g.cells + 1)).take (i + 1) = (s.drop (g.cells + 1)).take i ++ [s[g.cells + 1 + i]'(by omega)] := by
            rw [List.take_add_one, List.getElem?_drop, List.getElem?_eq_getElem (by omega)]; rfl
          have hs2 : (s.drop (g.cells + g.kinds.length + 2)).take (i + 1) = (s.drop (g.cells + g.kinds.length + 2)).take i ++ [s[g.cells + g.kinds.length + 2 + i]'(by omega)] := by
            rw [List.take_add_one, List.getElem?_drop, List.getElem?_eq_getElem (by omega)]; rfl
          (repeat (first | refine Gs.dr ?_ | refine G.qadd (by omega) ?_ | refine G.qkp ?_ | refine Gs.qkb ?_))
          rw [show ((g.cells : Int) + 1 + i) = ((g.cells + 1 + i : Nat) : Int) by omega]
          refine G.qsindexN (show g.cells + 1 + i < s.length by omega) ?_
          (repeat (refine G.qkp ?_))
          refine Gs.callv0 (digit_ok _ h) ?_
          (repeat (first | refine G.withT ?_ | refine Gs.withb ?_))
          refine Gs.buildSlice (by decide) ?_
          intro tq1
          (repeat (first | refine G.withT ?_ | refine Gs.withb ?_))
          refine Gs.appendO (enc := eInt) (l := ((s.drop (g.cells + 1)).take i).map dX) (m := [dX (s[g.cells + 1 + i]'(by omega))]) (e2 := 3) (by simp [fl]) (by simp; omega) (by simp; omega) ?_
          intro v3
          refine Gs.slH (v := v3) ?_
          rintro q1' rfl
          (repeat (first | refine Gs.store ?_ | refine Gs.dr ?_ | refine G.qadd (by omega) ?_ | refine G.qkp ?_ | refine Gs.qkb ?_ | refine G.withT ?_))
          rw [show ((g.cells : Int) + g.kinds.length + 2 + i) = ((g.cells + g.kinds.length + 2 + i : Nat) : Int) by omega]
          refine G.qsindexN (show g.cells + g.kinds.length + 2 + i < s.length by omega) ?_
          (repeat (refine G.qkp ?_))
          refine Gs.callv0 (digit_ok _ h) ?_
          (repeat (first | refine G.withT ?_ | refine Gs.withb ?_))
          refine Gs.buildSlice (by decide) ?_
          intro tq2
          (repeat (first | refine G.withT ?_ | refine Gs.withb ?_))
          refine Gs.appendO (enc := eInt) (l := ((s.drop (g.cells + g.kinds.length + 2)).take i).map dX) (m := [dX (s[g.cells + g.kinds.length + 2 + i]'(by omega))]) (e2 := 3) (by simp [fl]) (by simp; omega) (by simp; omega) ?_
          intro v4
          refine Gs.slH (v := v4) ?_
          rintro q2' rfl
          (repeat (first | refine G.add (by omega) ?_ | refine Gs.store ?_ | refine G.qkp ?_ | refine G.withT ?_))
          have f1 : ((s.drop (g.cells + 1)).take i).map dX ++ [dX (s[g.cells + 1 + i]'(by omega))] = ((s.drop (g.cells + 1)).take (i + 1)).map dX := by rw [hs1, List.map_append]; rfl
          have f2 : ((s.drop (g.cells + g.kinds.length + 2)).take i).map dX ++ [dX (s[g.cells + g.kinds.length + 2 + i]'(by omega))] = ((s.drop (g.cells + g.kinds.length + 2)).take (i + 1)).map dX := by rw [hs2, List.map_append]; rfl
          rw [f1, f2]
          exact Gs.goS (hc2 (i + 1, q1', q2') (by dsimp only; omega) (by dsimp only; omega)) rfl
        · have hik : i = g.kinds.length := by omega
          subst hik
          have f3 : ∀ j, j < s.length - 2 - (g.cells + 2 * g.kinds.length + 3) → (s.drop (g.cells + 2 * g.kinds.length + 3)).take (j + 1) = (s.drop (g.cells + 2 * g.kinds.length + 3)).take j ++ [s.getD (g.cells + 2 * g.kinds.length + 3 + j) 0] := fun j hj => by
            rw [List.take_add_one, List.getElem?_drop, List.getD_eq_getElem?_getD, List.getElem?_eq_getElem (by omega)]; rfl
          (repeat (first | refine G.add (by omega) ?_ | refine G.mul (by omega) ?_))
          refine Gs.lp (β := Nat) (fun j => I ((g.cells + 2 * g.kinds.length + 3 + j : Nat) : Int)) (fun _ => h) (fun j => [.sl (slv q1) 3 1 (fl eInt (((s.drop (g.cells + 1)).take g.kinds.length).map dX)), .sl (slv q2) 3 1 (fl eInt (((s.drop (g.cells + g.kinds.length + 2)).take g.kinds.length).map dX)), .sl (slv v) 3 1 (fl eInt ((s.take g.cells).map rdX)), .blk pb [slv v, slv q1, slv q2, I (ten ((s.drop (g.cells + 2 * g.kinds.length + 3)).take j)), I S] 44, .blk bb [.slice none 0 0, .slice none 0 0, .slice none 0 0, I 0, I 0, I 3] 51, .blk tb [.slice none 0 0, .slice none 0 0, .slice none 0 0, I 0, I 0, I 0] 51, .blk gb [I g.cells, slv x.1, slv x.2.1, slv x.2.2.1, I g.rights, .bool g.must, slv x.2.2.2, I g.blocked, I g.endless] 39]) (fun j => j ≤ s.length - 2 - (g.cells + 2 * g.kinds.length + 3)) (fun j => s.length - 2 - (g.cells + 2 * g.kinds.length + 3) - j) 0 rfl (Nat.zero_le _) (fun w s => s) ?_
          rintro j hj cont3 hc3
          (repeat (first | refine G.sub (by omega) ?_ | refine G.step ?_ | (refine G.jk ?_; intro _)))
          refine G.ifd ?_ ?_ <;> intro hlt3
          · have hb0 := ten_bd ((s.drop (g.cells + 2 * g.kinds.length + 3)).take j) (by simp; omega)
            have hj' : g.cells + 2 * g.kinds.length + 3 + j < s.length := by omega
            have hdd := dX_bd (s[g.cells + 2 * g.kinds.length + 3 + j]'hj')
            have hg0 : s.getD (g.cells + 2 * g.kinds.length + 3 + j) 0 = s[g.cells + 2 * g.kinds.length + 3 + j]'hj' := by rw [List.getD_eq_getElem?_getD, List.getElem?_eq_getElem hj']; rfl
            (repeat (first | refine Gs.dr ?_ | refine G.qmul (by omega) ?_ | refine G.qkp ?_ | refine Gs.qkb ?_))
            refine G.qsindexN hj' ?_
            refine Gs.callv0 (digit_ok _ h) ?_
            (repeat (first | refine G.add (by omega) ?_ | refine Gs.store ?_ | refine G.qadd (by omega) ?_ | refine G.qkp ?_ | refine G.withT ?_ | refine Gs.withb ?_))
            have f4 : 10 * ten ((s.drop (g.cells + 2 * g.kinds.length + 3)).take j) + dX (s[g.cells + 2 * g.kinds.length + 3 + j]'hj') = ten ((s.drop (g.cells + 2 * g.kinds.length + 3)).take (j + 1)) := by rw [f3 j (by omega), ten_snoc, hg0]
            rw [f4]
            exact Gs.goS (hc3 (j + 1) (by omega) (by omega)) rfl
          · have hj2 : j = s.length - 2 - (g.cells + 2 * g.kinds.length + 3) := by omega
            subst hj2
            clear hc hc2 hc3 cont cont2 cont3
            refine Gs.freezeE (v := slv q1) (enc := eInt) (l := ((s.drop (g.cells + 1)).take g.kinds.length).map dX) (by decide) ?_
            intro h1 hle1 r1
            refine Gs.freezeE (v := slv q2) (enc := eInt) (l := ((s.drop (g.cells + g.kinds.length + 2)).take g.kinds.length).map dX) (by decide) ?_
            intro h2 hle2 r2
            refine Gs.freezeE (v := slv v) (enc := eInt) (l := (s.take g.cells).map rdX) (by decide) ?_
            intro h3 hle3 r3
            have hg3 := ((hg.mono hle1).mono hle2).mono hle3
            have hq : posR h3 (v, q1, q2, ten ((s.drop (g.cells + 2 * g.kinds.length + 3)).take (s.length - 2 - (g.cells + 2 * g.kinds.length + 3))), S) (atP g.cells g.kinds.length s) :=
              ⟨r3, (r1.mono hle2).mono hle3, r2.mono hle3, rfl, by rw [← hS]; rfl, by unfold atP; simp; omega, by unfold atP; simp; omega, by unfold atP; simp; omega⟩
            generalize ten ((s.drop (g.cells + 2 * g.kinds.length + 3)).take (s.length - 2 - (g.cells + 2 * g.kinds.length + 3))) = tn at *
            generalize atP g.cells g.kinds.length s = q at *
            refine G.jnP (fun j => j = .bool (!(validP g q && decide (txt q = s)))) ?_ ?_
            · rintro j rfl
              refine G.jk ?_; intro _
              by_cases hok : ValidS g q ∧ txt q = s
              · rw [validP_iff.2 hok.1, decide_eq_true hok.2]
                (repeat (first | refine G.step ?_ | refine Gs.store ?_ | refine G.retc ?_ | refine G.iff ?_))
                exact Gs.ret ⟨_, q, 0, rfl, hq, .inl ⟨rfl, hok.1, hok.2⟩⟩
              · have e : (validP g q && decide (txt q = s)) = false := by
                  rw [Bool.and_eq_false_iff]
                  by_cases hv : ValidS g q
                  · exact .inr (decide_eq_false fun e => hok ⟨hv, e⟩)
                  · left
                    cases hvp : validP g q
                    · rfl
                    · exact absurd (validP_iff.1 hvp) hv
                rw [e]
                (repeat (first | refine G.step ?_ | refine Gs.store ?_ | refine G.retc ?_ | refine G.ift ?_))
                exact Gs.ret ⟨_, _, 3, rfl, posR_zero _, .inr ⟨rfl, rfl, fun p hv ht => hok (by have := (hval p hv ht).1; rw [← this]; exact ⟨hv, ht⟩)⟩⟩
            · intro K hK
              have hcv := rvalid_ok g x (v, q1, q2, tn, S) q h3 hg3 (by clear hS; omega) (by clear hS; omega) (by clear hS; omega) hq
              have hpv := fun a b => rprint_ok x g (v, q1, q2, tn, S) q h3 hq a b
              (repeat (refine G.step ?_))
              refine Gs.callv0 hcv ?_
              (repeat (refine G.step ?_))
              refine G.gdbf ?_ ?_ <;> intro hv
              · simp only [Bool.not_eq_true'] at hv
                exact hK _ (by rw [hv]; rfl)
              · simp only [Bool.not_eq_false'] at hv
                have hvs := validP_iff.1 hv
                obtain ⟨z1, z2, z3⟩ := hvs.lens
                (repeat (refine G.step ?_))
                refine Gs.callv0 (hpv ⟨by clear hS; omega, by clear hS; omega, by clear hS; omega⟩ (hvs.ok hk2 hr2)) ?_
                (repeat (refine G.step ?_))
                exact hK _ (by rw [hv, Bool.true_and, ← decide_not])
    · rw [decide_eq_false hlen]
      (repeat (first | refine G.step ?_ | refine Gs.store ?_ | refine G.retc ?_ | refine G.ift ?_))
      exact Gs.ret ⟨_, _, 3, rfl, posR_zero _, .inr ⟨rfl, rfl, fun p hv ht => hlen (by have := (hval p hv ht).2; omega)⟩⟩
  · intro K hK
    (repeat (first | refine G.add (by omega) ?_ | refine G.mul (by omega) ?_ | refine G.step ?_))
    refine G.gddf ?_ ?_ <;> intro q1
    · exact hK _ (by rw [decide_eq_false (by omega)]; rfl)
    · (repeat (first | refine G.add (by omega) ?_ | refine G.mul (by omega) ?_ | refine G.step ?_))
      refine hK _ ?_
      rw [← decide_not]
      congr 1
      rw [decide_eq_decide]
      omega
end Go.Proofs.YtcmokdokcghooaaGreatDoor
end

