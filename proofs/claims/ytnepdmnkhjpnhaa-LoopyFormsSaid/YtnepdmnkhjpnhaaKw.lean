/-
  The walk: any state that holds what is frozen; a state with something kept behind it, of which only an invariant is known.
-/
import Derived.Test.YtnepdmnkhjpnhaaKz
import Derived.Test.YtnepdmnkhjpnhaaKg
set_option linter.unusedVariables false
set_option linter.unusedSimpArgs false
set_option linter.unusedSectionVars false
namespace Go.Sk
open Go Go.RowKit
variable {M : Mode}
/-- A loop, its states told by a ghost, whatever the state. -/
theorem G.lpG {S : WP} {α β : Type} {B : (α → WP) → α → WP} {s : α} (f : β → α) (Si : β → WP) (p : β → Prop) (μ : β → Nat) (b0 : β)
    (hs : s = f b0) (hp0 : p b0) (hst : ∀ w, S w → Si b0 w)
    (hr : ∀ b, p b → ∀ cont : α → WP, (∀ b', p b' → μ b' < μ b → G (Si b') (cont (f b'))) → G (Si b) (B cont (f b))) : G S (Lp B s) := ⟨fun w hw => by
  refine ⟨fun s w => ∃ b, s = f b ∧ p b ∧ Si b w, fun s w => leastOf fun n => ∃ b, s = f b ∧ p b ∧ Si b w ∧ μ b = n, ⟨b0, hs, hp0, hst w hw⟩, ?_⟩
  rintro s w ⟨b1, e1, p1, s1⟩
  obtain ⟨b, rfl, pb, sb, hμ⟩ := leastOf_mem (Q := fun n => ∃ b, s = f b ∧ p b ∧ Si b w ∧ μ b = n) ⟨_, b1, e1, p1, s1, rfl⟩
  dsimp only
  rw [← hμ]
  exact (hr b pb _ (fun b' pb' hlt => ⟨fun w' sw' => ⟨⟨b', rfl, pb', sw'⟩, Nat.lt_of_le_of_lt (leastOf_le ⟨b', rfl, pb', sw', rfl⟩) hlt⟩⟩)).run w sb⟩
theorem G.goE {S : WP} {α : Type} {cont : α → WP} {t t' : α} (hc : G S (cont t')) (e : t = t') : G S (cont t) := e ▸ hc

class Frz (S : WP) (h : outParam Hp) : Prop where
  ok : ∀ w, S w → Hle h (World.hp w)
instance Frz.st {w0 : World} {h0 h : Hp} {L : List Itm} : Frz (St w0 h0 h L) h := ⟨fun w s => s.frozen⟩
instance Frz.fc {h : Hp} : Frz (FrzC h) h := ⟨fun w s => s⟩

section
variable {P : Program} {S : WP} {h : Hp} {K : Value → WP} {KQ : WP → Value → WP} {α H : Type} {enc : α → List Value} {encH : H → List Value} {t ty e sz by_ : Nat} {v : Value} {l : List α} {rel : Hp → H → α → Prop}
theorem G.lenE [ht : TSlice P t e sz by_] (hr : RdE h v enc sz l) (hn : l.length ≤ 9223372036854775807) (hk : G S (K (I l.length))) : G S (Do P (vBuiltin .len #[t] ty [v]) K) := by
  obtain ⟨_, a, cap, rfl, _, _⟩ := hr
  haveI : Yd P S (vBuiltin .len #[t] ty [.slice a l.length cap]) (I l.length) := ⟨fun w _ => by rw [run_len, goInt_small hn]⟩
  exact G.step hk
theorem G.lenF [ht : TSlice P t e sz by_] (hr : RdF h v encH sz rel l) (hn : l.length ≤ 9223372036854775807) (hk : G S (K (I l.length))) : G S (Do P (vBuiltin .len #[t] ty [v]) K) := by
  obtain ⟨hs, h1, h2⟩ := hr
  rw [← h2.len] at hk hn
  exact G.lenE h1 hn hk
theorem G.qlenF [ht : TSlice P t e sz by_] (hr : RdF h v encH sz rel l) (hn : l.length ≤ 9223372036854775807) (hk : G S (KQ TrueC (I l.length))) : G S (Qk P (vBuiltin .len #[t] ty [v]) KQ) := by
  obtain ⟨hs, h1, h2⟩ := hr
  rw [← h2.len] at hk hn
  obtain ⟨_, a, cap, rfl, _, _⟩ := h1
  haveI : Yd P TrueC (vBuiltin .len #[t] ty [.slice a hs.length cap]) (I hs.length) := ⟨fun w _ => by rw [run_len, goInt_small hn]⟩
  exact G.qkp hk
theorem G.indexE {k : IntKind} {i : Nat} [ht : TSlice P t e sz by_] [he : Enc enc sz] (hr : RdE h v enc sz l) (hi : i < l.length) (hk : ∀ b o, PtAt h b o (enc l[i]) → G S (K (ptr b o))) : G S (Do P (V (Instr.indexAt t v (.int k i))) K) := by
  obtain ⟨h1, a, cap, rfl, hc, h3⟩ := hr
  rcases h3 with h3 | ⟨b, o, rfl, hp⟩
  · omega
  haveI : Yd P S (V (Instr.indexAt t (.slice (some ⟨b, o, none⟩) l.length cap) (.int k i))) (ptr b (o + i * sz)) := ⟨fun w _ => by
    have := indexAt_run (P := P) (t := t) (e := e) (sz := sz) (by_ := by_) (n := l.length) (cap := cap) (b := b) (o := o) (k := k) (i := (i : Int)) ⟨by omega, by omega⟩ w
    rwa [Int.toNat_natCast] at this⟩
  refine G.step (hk b (o + i * sz) fun j v e => ?_)
  rw [← fl_chunk (enc := enc) l i hi] at e
  have := hp _ _ (chunk_get e)
  rw [Nat.add_assoc]
  exact this
theorem G.indexF {k : IntKind} {i : Nat} [ht : TSlice P t e sz by_] [he : Enc encH sz] (hr : RdF h v encH sz rel l) (hi : i < l.length) (hk : ∀ b o x, PtAt h b o (encH x) → rel h x l[i] → G S (K (ptr b o))) : G S (Do P (V (Instr.indexAt t v (.int k i))) K) := by
  obtain ⟨hs, h1, h2⟩ := hr
  exact G.indexE h1 (by rw [h2.len]; exact hi) fun b o hp => hk b o _ hp (h2.get i (by rw [h2.len]; exact hi) hi)
theorem G.qindexF {k : IntKind} {i : Nat} [ht : TSlice P t e sz by_] [he : Enc encH sz] (hr : RdF h v encH sz rel l) (hi : i < l.length) (hk : ∀ b o x, PtAt h b o (encH x) → rel h x l[i] → G S (KQ TrueC (ptr b o))) : G S (Qk P (V (Instr.indexAt t v (.int k i))) KQ) := by
  obtain ⟨hs, ⟨h1, a, cap, rfl, hc, h3⟩, h2⟩ := hr
  have hi' : i < hs.length := by rw [h2.len]; exact hi
  rcases h3 with h3 | ⟨b, o, rfl, hp⟩
  · omega
  haveI : Yd P TrueC (V (Instr.indexAt t (.slice (some ⟨b, o, none⟩) hs.length cap) (.int k i))) (ptr b (o + i * sz)) := ⟨fun w _ => by
    have := indexAt_run (P := P) (t := t) (e := e) (sz := sz) (by_ := by_) (n := hs.length) (cap := cap) (b := b) (o := o) (k := k) (i := (i : Int)) ⟨by omega, by omega⟩ w
    rwa [Int.toNat_natCast] at this⟩
  refine G.qkp (hk b (o + i * sz) hs[i] (fun j v e => ?_) (h2.get i hi' hi))
  rw [← fl_chunk (enc := encH) hs i hi'] at e
  have := hp _ _ (chunk_get e)
  rw [Nat.add_assoc]
  exact this
theorem G.loadE {val : α → Value} [hS : Frz S h] [hl : LdE P e enc val] {b o : Nat} {x : α} (hp : PtAt h b o (enc x)) (hk : G S (K (val x))) : G S (Do P (V (Instr.loadAt e (ptr b o))) K) :=
  haveI : Yd P S (V (Instr.loadAt e (ptr b o))) (val x) := ⟨fun w s => (hl.ok h b o x hp).run w (hS.ok w s)⟩
  G.step hk
theorem G.qloadE {val : α → Value} [hS : Frz S h] [hl : LdE P e enc val] {b o : Nat} {x : α} (hp : PtAt h b o (enc x)) (hk : G S (KQ (FrzC h) (val x))) : G S (Qk P (V (Instr.loadAt e (ptr b o))) KQ) :=
  haveI := hl.ok h b o x hp
  G.qk (FrzC h) (fun w s => hS.ok w s) hk
theorem G.ld1 {t b o : Nat} {cs : List Value} {v : Value} [hS : Frz S h] [TOne P t] (hp : PtAt h b o (v :: cs)) (hk : G S (K v)) : G S (Do P (V (Instr.loadAt t (ptr b o))) K) :=
  haveI : Yd P S (V (Instr.loadAt t (ptr b o))) v := ⟨fun w s => (Sk.loadP1 hp).run w (hS.ok w s)⟩
  G.step hk
theorem G.qld1 {t b o : Nat} {cs : List Value} {v : Value} [hS : Frz S h] [TOne P t] (hp : PtAt h b o (v :: cs)) (hk : G S (KQ (FrzC h) v)) : G S (Qk P (V (Instr.loadAt t (ptr b o))) KQ) :=
  haveI := Sk.loadP1 (P := P) (t := t) hp
  G.qk (FrzC h) (fun w s => hS.ok w s) hk
theorem G.withF {X : WP} {h1 : Hp} [hS : Frz S h] (hle : Hle h1 h) (hk : G S X) : G S (With (FrzC h1) X) := G.with (fun w s => hle.trans (hS.ok w s)) hk
theorem RdF.cut [he : Enc encH sz] (hr : RdF h v encH sz rel l) {lo hi : Nat} (h1 : lo ≤ hi) (h2 : hi ≤ l.length) : ∃ a n cap, v = .slice a n cap ∧ n = l.length ∧ n ≤ cap ∧ RdF h (.slice (if cap = lo then a else a.map (·.add (lo * sz))) (hi - lo) (cap - lo)) encH sz rel ((l.take hi).drop lo) := by
  obtain ⟨hs, q1, q2⟩ := hr
  have q1' := q1
  obtain ⟨g1, a, cap, rfl, g3, g4⟩ := q1
  exact ⟨a, hs.length, cap, rfl, q2.len, g3, _, RdE.cut q1' h1 (by rw [q2.len]; exact h2), (q2.take _).drop _⟩
theorem G.qcutF [ht : TSlice P t e sz by_] [he : Enc encH sz] {lo hi : Option Int} (hr : RdF h v encH sz rel l) (h1 : cutLo lo ≤ cutHi hi l.length) (h2 : cutHi hi l.length ≤ l.length) (hlo : ∀ i, lo = some i → 0 ≤ i) (hhi : ∀ i, hi = some i → 0 ≤ i)
    (hk : ∀ v', RdF h v' encH sz rel ((l.take (cutHi hi l.length)).drop (cutLo lo)) → G S (KQ TrueC v')) : G S (Qk P (V (Instr.sliceAt t v (optI lo) (optI hi) none)) KQ) := by
  obtain ⟨a, n, cap, rfl, hn, hc, hr'⟩ := RdF.cut hr h1 h2
  subst hn
  haveI : Yd P TrueC (V (Instr.sliceAt t (.slice a l.length cap) (optI lo) (optI hi) none)) _ := ⟨fun w _ => run_cut hc h1 (by omega) hlo hhi w⟩
  exact G.qkp (hk _ hr')
end

/-! ### Something kept behind -/
/-- A state with items of which an invariant is known, and that what is frozen may have grown. -/
structure OW [M : Mode] (Q : Hp → List Itm → Prop) (w0 : World) (h0 h : Hp) (L : List Itm) (w : World) : Prop where
  out : ∃ h' B, Hle h h' ∧ Q h' B ∧ St w0 h0 h' (B ++ L) w
class QM (Q : Hp → List Itm → Prop) : Prop where
  mono : ∀ {h h' : Hp} {B : List Itm}, Hle h h' → Q h B → Q h' B
instance Frz.ow {Q : Hp → List Itm → Prop} {w0 : World} {h0 h : Hp} {L : List Itm} : Frz (OW Q w0 h0 h L) h := ⟨fun w s => by
  obtain ⟨h', B, hle, _, s⟩ := s.out
  exact hle.trans s.frozen⟩
abbrev Gw [M : Mode] (Q : Hp → List Itm → Prop) (w0 : World) (h0 h : Hp) (L : List Itm) (p : WP) : Prop := G (OW Q w0 h0 h L) p
section
variable {P : Program} {Q : Hp → List Itm → Prop} {w0 : World} {h0 h : Hp} {L R : List Itm} {K : Value → WP} {KQ : WP → Value → WP} {X : WP}
theorem Gw.open (hk : ∀ h' B, Hle h h' → Q h' B → Gs w0 h0 h' (B ++ L) X) : Gw Q w0 h0 h L X := ⟨fun w s => by
  obtain ⟨h', B, hle, hQ, s⟩ := s.out
  exact (hk h' B hle hQ).run w s⟩
theorem Gw.close {B : List Itm} (hQ : Q h B) (hk : Gw Q w0 h0 h L X) : Gs w0 h0 h (B ++ L) X := ⟨fun w s => hk.run w ⟨h, B, Hle.refl h, hQ, s⟩⟩
theorem Gw.weak {h1 : Hp} (hle : Hle h h1) (hk : Gw Q w0 h0 h L X) : Gw Q w0 h0 h1 L X := ⟨fun w s => by
  obtain ⟨h', B, hle', hQ, s⟩ := s.out
  exact hk.run w ⟨h', B, hle.trans hle', hQ, s⟩⟩
theorem Gw.perm {L' : List Itm} (hp : L.Perm L') (hk : Gw Q w0 h0 h L' X) : Gw Q w0 h0 h L X := ⟨fun w s => by
  obtain ⟨h', B, hle', hQ, s⟩ := s.out
  exact hk.run w ⟨h', B, hle', hQ, s.perm (hp.append_left B)⟩⟩
theorem Gw.sel {L' : List Itm} [hs : Sel L L'] (hk : Gw Q w0 h0 h L' X) : Gw Q w0 h0 h L X := ⟨fun w s => by
  obtain ⟨h', B, hle', hQ, s⟩ := s.out
  obtain ⟨R, hR⟩ := hs.ok
  refine hk.run w ⟨h', B, hle', hQ, (s.perm (hR.append_left B)).sub ?_⟩
  rw [← List.append_assoc]
  exact List.sublist_append_left (B ++ L') R⟩
theorem Gw.drop (hk : ∀ h', Hle h h' → Gs w0 h0 h' L X) : Gw Q w0 h0 h L X := ⟨fun w s => by
  obtain ⟨h', B, hle', hQ, s⟩ := s.out
  exact (hk h' hle').run w (s.sub (List.sublist_append_right B L))⟩
theorem Gw.ret {post : Hp → Value → Prop} {v : Value} (hp : ∀ h', Hle h h' → post h' v) : Gw Q w0 h0 h L (RetP w0 h0 post v) := Gw.drop fun h' hle => Gs.ret (hp h' hle)
/-- The owned items taken to the front and back. -/
theorem Gw.lift (hk : ∀ h' B, Hle h h' → Q h' B → Gs w0 h0 h' (L ++ B) X) : Gw Q w0 h0 h L X := Gw.open fun h' B hle hQ => Gs.perm List.perm_append_comm (hk h' B hle hQ)
theorem Gw.back {B : List Itm} {h' : Hp} (hle : Hle h h') (hQ : Q h' B) (hk : Gw Q w0 h0 h L X) : Gs w0 h0 h' (L ++ B) X := Gs.perm List.perm_append_comm (Gw.close hQ (Gw.weak hle hk))
instance TakeB.app {b : Nat} {cs : List Value} {e : TypeId} {B : List Itm} [h : TakeB L b cs e R] : TakeB (L ++ B) b cs e (R ++ B) := ⟨by
  have := h.perm.append_right B
  simpa using this⟩
instance TakeS.app {v : Value} {e : TypeId} {sz : Nat} {xs : List Value} {B : List Itm} [h : TakeS L v e sz xs R] : TakeS (L ++ B) v e sz xs (R ++ B) := ⟨by
  have := h.perm.append_right B
  simpa using this⟩
instance Blk.app {b : Nat} {cs : List Value} {e : TypeId} {B : List Itm} [h : Blk L b cs e] : Blk (L ++ B) b cs e := ⟨List.mem_append_left _ h.mem⟩
instance Sl.app {v : Value} {e : TypeId} {sz : Nat} {xs : List Value} {B : List Itm} [h : Sl L v e sz xs] : Sl (L ++ B) v e sz xs := ⟨List.mem_append_left _ h.mem⟩
theorem Gw.box {t : TypeId} {v : Value} {l : List Value} [hc : Cells v l] (hk : ∀ b, Gw Q w0 h0 h (.blk b l t :: L) (K (ptr b 0))) : Gw Q w0 h0 h L (Do P (V (Instr.box t v)) K) :=
  Gw.lift fun h' B hle hQ => Gs.box fun b => Gw.back (L := .blk b l t :: L) hle hQ (hk b)
theorem Gw.alloc {t : TypeId} {l : List Value} [hz : TZero P t l] (hk : ∀ b, Gw Q w0 h0 h (.blk b l t :: L) (K (ptr b 0))) : Gw Q w0 h0 h L (Do P (V (Instr.alloc t true (.tuple #[]))) K) :=
  Gw.lift fun h' B hle hQ => Gs.alloc fun b => Gw.back (L := .blk b l t :: L) hle hQ (hk b)
theorem Gw.store {t n b o : Nat} {v : Value} {l cs cs' : List Value} {e : TypeId} [ht : TSize P t n] [hc : Cells v l] [hl : Flat l] [htk : TakeB L b cs e R] [hs : SetN cs o l cs'] [hln : LenIs l n]
    (hk : Gw Q w0 h0 h (.blk b cs' e :: R) (K undef)) : Gw Q w0 h0 h L (Do P (U (Instr.storeAt t (ptr b o) v)) K) :=
  Gw.lift fun h' B hle hQ => Gs.store (R := R ++ B) (cs := cs) (cs' := cs') (Gw.back (L := .blk b cs' e :: R) hle hQ hk)
theorem OW.blk {b : Nat} {cs : List Value} {e : TypeId} {w : World} (s : OW Q w0 h0 h L w) (hh : Itm.blk b cs e ∈ L) : w.heap[b]? = some (.cells cs.toArray e (0, 0)) := by
  obtain ⟨h', B, _, _, s⟩ := s.out
  exact s.blk (List.mem_append_right _ hh)
theorem OW.sl {v : Value} {e sz : Nat} {xs : List Value} {w : World} (s : OW Q w0 h0 h L w) (hs : Itm.sl v e sz xs ∈ L) : slOk v e sz xs (World.hp w) := by
  obtain ⟨h', B, _, _, s⟩ := s.out
  exact s.sl (List.mem_append_right _ hs)
instance Yd.loadBlkW1 {t b o : Nat} {cs : List Value} {e : TypeId} {v : Value} [hb : Blk L b cs e] [TOne P t] [hn : Nth cs o v] : Yd P (OW Q w0 h0 h L) (V (Instr.loadAt t (ptr b o))) v :=
  ⟨fun w s => loadAt_run (run_loadVar_one (by rw [cell_of (s.blk hb.mem)]; exact hn.ok))⟩
instance Yd.loadBlkWN {t b o n : Nat} {cs : List Value} {e : TypeId} {s : List Value} [hb : Blk L b cs e] [TAgg P t n] [Subl cs o n s] : Yd P (OW Q w0 h0 h L) (V (Instr.loadAt t (ptr b o))) (.agg s.toArray) :=
  ⟨fun w st => loadAt_run (run_loadVar_agg (st.blk hb.mem))⟩
theorem Gw.qkb {t b o : Nat} {cs : List Value} {e : TypeId} {v : Value} [hb : Blk L b cs e] [Yd P (BlkC b cs e) (V (Instr.loadAt t (ptr b o))) v] (hk : Gw Q w0 h0 h L (KQ (BlkC b cs e) v)) : Gw Q w0 h0 h L (Qk P (V (Instr.loadAt t (ptr b o))) KQ) :=
  G.qk (BlkC b cs e) (fun w s => s.blk hb.mem) hk
theorem Gw.withb {b : Nat} {cs : List Value} {e : TypeId} [hb : Blk L b cs e] (hk : Gw Q w0 h0 h L X) : Gw Q w0 h0 h L (With (BlkC b cs e) X) := G.with (fun w s => s.blk hb.mem) hk
theorem Gw.dr (hx : Gw Q w0 h0 h L X) : Gw Q w0 h0 h L (Dr X) := ⟨fun w s => ⟨hx.run _ (by
  obtain ⟨h', B, hle, hQ, s⟩ := s.out
  exact ⟨h', B, hle, hQ, s.drew⟩)⟩⟩
theorem Gw.nilsl (e : TypeId) (sz : Nat) (hk : Gw Q w0 h0 h (.sl (.slice none 0 0) e sz [] :: L) X) : Gw Q w0 h0 h L X :=
  Gw.lift fun h' B hle hQ => Gs.nilsl e sz (Gw.back (L := .sl (.slice none 0 0) e sz [] :: L) hle hQ hk)
theorem Gw.buildSlice {t e sz by_ n : Nat} {parts : List (Nat × Value)} {z out : List Value} [ht : TSlice P t e sz by_] [hz : TZero P e z] [hp : Parts 0 parts sz out] [hn : PLen parts n] (hsmall : n * sz ≤ 16777216)
    (hk : ∀ b, Gw Q w0 h0 h (.sl (.slice (some ⟨b, 0, none⟩) n n) e sz out :: L) (K (.slice (some ⟨b, 0, none⟩) n n))) : Gw Q w0 h0 h L (Do P (vBuildSlice t n parts) K) :=
  Gw.lift fun h' B hle hQ => Gs.buildSlice hsmall fun b => Gw.back (L := .sl (.slice (some ⟨b, 0, none⟩) n n) e sz out :: L) hle hQ (hk b)
section
variable {α : Type} {enc : α → List Value} {sz : Nat} {v : Value} {l : List α} {t e by_ ty : Nat} {z : List Value}
theorem Gw.push [ht : TSlice P t e sz by_] [hz : TZero P e z] [hzl : LenIs z sz] [he : Enc enc sz] [htk : TakeS L v e sz (fl enc l) R] {u : Value} {a : α} [hc : Cells u (enc a)] (hs : sz ≤ 16777216) (hsz : sz ≠ 0) (hb : (l.length + 1) * sz * by_ ≤ 140737488355328) (h63 : (l.length + 1) * sz ≤ 9223372036854775807) {K : Value → Value → WP}
    (hk : ∀ s (q : SlH), Gw Q w0 h0 h (.sl (slv q) e sz (fl enc (l ++ [a])) :: R) (K s (slv q))) : Gw Q w0 h0 h L (Do P (vBuildSlice t 1 [(0, u)]) fun s => Do P (vBuiltin .append #[t, t] ty [v, s]) (K s)) :=
  Gw.lift fun h' B hle hQ => Gs.push (R := R ++ B) hs hsz hb h63 fun s v' => Gs.slH (v := v') fun q hq => by
    subst hq
    exact Gw.back (L := .sl (slv q) e sz (fl enc (l ++ [a])) :: R) hle hQ (hk s q)
theorem Gw.freezeE [hm : QM Q] [he : Enc enc sz] [ht : TakeS L v e sz (fl enc l) R] (hsz : sz ≠ 0) (hk : ∀ h', Hle h h' → RdE h' v enc sz l → Gw Q w0 h0 h' R X) : Gw Q w0 h0 h L X :=
  Gw.lift fun h' B hle hQ => Gs.freezeE (v := v) (e := e) (enc := enc) (l := l) (R := R ++ B) hsz fun h2 hle2 hr => Gw.back (Hle.refl h2) (hm.mono hle2 hQ) (hk h2 (hle.trans hle2) hr)
end
theorem Gw.call0 [hm : QM Q] {f : FuncId} [IsGo P f] {args : List Value} {post : Hp → Value → Prop} (hf : ∀ h', Hle h h' → Ct P f args h' post) (hk : ∀ v h', Hle h h' → post h' v → Gw Q w0 h0 h' L (K v)) : Gw Q w0 h0 h L (Do P (vCall (.func (.func f) #[] ⟨[]⟩) args) K) :=
  Gw.lift fun h' B hle hQ => Gs.call0 (hf h' hle) fun v h2 hle2 hp => Gw.back (Hle.refl h2) (hm.mono hle2 hQ) (hk v h2 (hle.trans hle2) hp)
theorem Gw.callv0 [hm : QM Q] {f : FuncId} [IsGo P f] {args : List Value} {r : Value} (hf : ∀ h', Hle h h' → Ct P f args h' (fun _ v => v = r)) (hk : Gw Q w0 h0 h L (K r)) : Gw Q w0 h0 h L (Do P (vCall (.func (.func f) #[] ⟨[]⟩) args) K) :=
  Gw.call0 hf fun v h' hle hp => by subst hp; exact Gw.weak hle hk
/-- An owned block is frozen. -/
theorem Gs.freezeB (b : Nat) {cs : List Value} {e : TypeId} [ht : TakeB L b cs e R] (hk : ∀ h', Hle h h' → PtAt h' b 0 cs → Gs w0 h0 h' R X) : Gs w0 h0 h L X := ⟨fun w s => by
  have s := s.perm ht.perm
  obtain ⟨hok, hfr⟩ := s.items (.blk b cs e) (by simp)
  have hap := List.pairwise_cons.1 s.apart
  obtain ⟨g1, g2⟩ := hfr b rfl
  let o : Obj := .cells cs.toArray e (0, 0)
  let h' : Hp := fun k => if k = b then some o else h k
  have hle : Hle h h' := fun k o e => by
    show (if k = b then _ else _) = _
    split
    · rename_i ek; subst ek; rw [g2] at e; cases e
    · exact e
  refine (hk h' hle ?_).run w ⟨s.below, s.up.trans hle, fun k hk => ?_, fun k o' e => ?_, fun it hi => ⟨(s.items it (by simp [hi])).1, fun c hc => ?_⟩, hap.2, s.drawn⟩
  · intro j v hj
    unfold hcell
    show (match (if b = b then some o else h b) with | some (.cells c _ _) => c[0 + j]? | _ => none) = _
    rw [if_pos rfl]
    show (cs.toArray)[0 + j]? = some v
    simpa using hj
  · show (if k = b then _ else _) = _
    rw [if_neg (by omega)]
    exact s.old k hk
  · replace e : (if k = b then some o else h k) = some o' := e
    split at e
    · rename_i ek; subst ek; cases e; exact hok
    · exact s.frozen k o' e
  · obtain ⟨q1, q2⟩ := (s.items it (by simp [hi])).2 c hc
    refine ⟨q1, ?_⟩
    show (if c = b then _ else _) = _
    rw [if_neg (fun e => ?_)]
    · exact q2
    · subst e
      exact hap.1 it hi c rfl hc⟩
end

/-! ### The first place where something holds: any state -/
section
variable {H α : Type} {enc : H → List Value} {sz : Nat} {val : H → Value} {v : Value} {l : List α} {t e by_ : Nat} {P : Program} {S : WP} {h : Hp} {K : Value → WP} {rel : Hp → H → α → Prop}
theorem sIdxG_ok [hS : Frz S h] [ht : TSlice P t e sz by_] [he : Enc enc sz] [hl : LdE P e enc val] {f : Value} (p : α → Bool) (hr : RdF h v enc sz rel l) (hn : l.length ≤ 4611686018427387904)
    (hf : ∀ (K : Value → WP) x a, rel h x a → a ∈ l → G S (K (.bool (p a))) → G S (Do P (vCall f [val x]) K))
    (hk : G S (K (I (idxOf p l 0)))) : G S (sIdx t e P v f K) := by
  unfold sIdx
  refine G.lenF hr (by omega) ?_
  obtain ⟨hs, hr1, hr2⟩ := hr
  have hlen := hr2.len
  refine G.lpG (β := Nat) (fun i => I i) (fun _ => S) (fun i => i ≤ l.length ∧ idxOf p (l.drop i) i = idxOf p l 0) (fun i => l.length - i) 0 rfl ⟨Nat.zero_le _, rfl⟩ (fun _ h => h) ?_
  rintro i ⟨hi, hR⟩ cont hc
  refine G.jk ?_; intro _
  refine G.step ?_
  refine G.ifd ?_ ?_ <;> intro hlt
  · have hlt' : i < l.length := by omega
    have hd : idxOf p (l.drop i) i = if p l[i] then (i : Int) else idxOf p (l.drop (i + 1)) (i + 1) := by
      rw [List.drop_eq_getElem_cons hlt']
      rfl
    refine G.indexE hr1 (by omega) ?_
    intro b o hp
    refine G.loadE hp ?_
    refine hf _ _ l[i] (hr2.get i (by omega) hlt') (List.getElem_mem hlt') ?_
    cases hpx : p l[i]
    · refine G.iff ?_
      refine G.add (by omega) ?_
      refine G.goE (hc (i + 1) ⟨hlt', ?_⟩ (by omega)) rfl
      rw [← hR, hd, hpx]; simp
    · refine G.ift ?_
      rw [← hR, hd, hpx] at hk
      exact hk
  · have hi' : i = l.length := by omega
    rw [← hR, hi', List.drop_length] at hk
    exact hk
end
/-! ### All orders at once -/
/-- Each operation of what it waits for, in states that know of each value that is there what its operation says of it. -/
theorem G.allO {l : List (List Nat × StepV)} {K : (Nat → Value) → WP} {S : Hp → WP} {h : Hp} (Sp : Nat → Hp → Value → Prop) (hmono : ∀ i h h' v, Hle h h' → Sp i h v → Sp i h' v)
    (hstep : ∀ i d st, l[i]? = some (d, st) → ∀ h' t (K' : Value → WP), Hle h h' → (∀ j ∈ d, Sp j h' (t j)) → (∀ h2 v, Hle h' h2 → Sp i h2 v → G (S h2) (K' v)) → G (S h') (st t K'))
    (hk : ∀ h' t, Hle h h' → (∀ i, i < l.length → Sp i h' (t i)) → G (S h') (K t)) : G (S h) (AllO l K) := ⟨fun w s => by
  refine ⟨fun ls t w => ∃ h', Hle h h' ∧ (∀ i ∈ ls, Sp i h' (t i)) ∧ S h' w, fun t => ⟨h, Hle.refl h, (fun i hi => (by cases hi)), s⟩, ?_⟩
  rintro ls t w ⟨h', hle, hsp, s⟩
  refine ⟨fun hall => (hk h' t hle fun i hi => hsp i (hall i hi)).run w s, fun i d st hi hni hd => ?_⟩
  refine (hstep i d st hi h' t _ hle (fun j hj => hsp j (hd j hj)) fun h2 v hle2 hv => ⟨fun w2 s2 => ⟨h2, hle.trans hle2, fun j hj => ?_, s2⟩⟩).run w s
  unfold updT
  by_cases e : j = i
  · subst e; simpa using hv
  · rw [beq_ne e]
    rcases List.mem_cons.1 hj with e' | hj
    · exact absurd e' e
    · exact hmono _ _ _ _ hle2 (hsp j hj)⟩
end Go.Sk
