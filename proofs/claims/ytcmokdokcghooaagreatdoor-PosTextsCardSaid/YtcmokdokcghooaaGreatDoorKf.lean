/-
  Lemmas for the proof of the statement of this claim: a part of the road, no statement of its own. Conditions: those that each lemma names.
-/
import Derived.Test.YtcmokdokcghooaaGreatDoorKb
import Derived.Deep.AppendSrc
import Derived.Laws.AppendOwn
import Derived.Laws.MakeOwn
import Derived.Laws.Slices
import Derived.Sort.Grow
section
/-
  The walk: slices that the call owns: made, appended to, read, written, cut.
-/
set_option linter.unusedVariables false
namespace Go.Sk
open Go Go.RowKit
variable {M : Mode}
section
variable {P : Program} {w0 : World} {h0 h : Hp} {L R : List Itm} {K : Value → WP} {S : WP}

theorem Itm.nilok (e : TypeId) (sz : Nat) (hp : Hp) : (Itm.sl (.slice none 0 0) e sz []).ok hp := .inl ⟨rfl, rfl⟩
/-- The nil slice is owned by whoever wants it. -/
theorem Gs.nilsl (e : TypeId) (sz : Nat) {X : WP} (hk : Gs w0 h0 h (.sl (.slice none 0 0) e sz [] :: L) X) : Gs w0 h0 h L X := ⟨fun w s => hk.run w
  { below := s.below, up := s.up, old := s.old, frozen := s.frozen, drawn := s.drawn
    items := fun it hi => by
      rcases List.mem_cons.1 hi with rfl | hi
      · exact ⟨Itm.nilok e sz _, fun b hb => (by cases hb)⟩
      · exact s.items it hi
    apart := List.pairwise_cons.2 ⟨fun it hi x hx => ((by cases hx)), s.apart⟩ }⟩

theorem V_run' {s : Sem Value} {w w' : World} {v : Value} (h : s.run P w = .ok v w') : (V s).run P w = .ok (.value v) w' := by
  unfold V; rw [Sem.run_bind, h]; rfl
theorem run_vB' {b : Builtin} {ts : Array TypeId} {t : TypeId} {args : List Value} {s : Sem Value} {v : Value} {w w' : World} (he : vBuiltin b ts t args = V s) (h : s.run P w = .ok v w') : (vBuiltin b ts t args).run P w = .ok (.value v) w' := by
  rw [he]; exact V_run' h
theorem oneCell_of_flat {v : Value} (h : flat v = true) : v.oneCell' = true := by
  cases v <;> first | rfl | cases h

/-- What an append's second argument yields, whatever the world of the walk. -/
class SrcG (P : Program) (S : WP) (sz : Nat) (tx : TypeId) (x : Value) (ys : outParam (List Value)) : Prop where
  ok : ∀ w, S w → ∃ n, Src P sz tx x n ys w

theorem zeroCells_len (z : Array Value) (n : Nat) : (Builtin.zeroCells z n).size = n * z.size := by
  unfold Builtin.zeroCells
  simp

theorem setCells_frame (b : Nat) : ∀ (vs : List Value) (o : Nat) (w : World), (w.setCells b o vs).os = w.os ∧ (w.setCells b o vs).tape = w.tape ∧ (w.setCells b o vs).output = w.output ∧ (w.setCells b o vs).heap.size = w.heap.size ∧ (∀ k, k ≠ b → (w.setCells b o vs).heap[k]? = w.heap[k]?) ∧ (w.setCells b o vs).drawn = w.drawn
  | [], o, w => ⟨rfl, rfl, rfl, rfl, fun _ _ => rfl, rfl⟩
  | v :: r, o, w => by
    obtain ⟨h1, h2, h3, h4, h5, h6⟩ := setCells_frame b r (o + 1) (w.setCell ⟨b, o, none⟩ v)
    refine ⟨h1, h2, h3, h4.trans (by simp), fun k hk => (h5 k hk).trans (Below.heap_setCell _ _ _ _ hk), h6⟩
theorem setCells_block (b : Nat) {e : TypeId} : ∀ (vs a c d : List Value) (o : Nat) (w : World), w.heap[b]? = some (.cells (a ++ c ++ d).toArray e (0, 0)) → a.length = o → c.length = vs.length →
    (w.setCells b o vs).heap[b]? = some (.cells (a ++ vs ++ d).toArray e (0, 0))
  | [], a, c, d, o, w, hb, ha, hc => by
    have : c = [] := List.eq_nil_of_length_eq_zero hc
    subst this
    exact hb
  | v :: r, a, c, d, o, w, hb, ha, hc => by
    cases c with
    | nil => simp at hc
    | cons x c =>
      have hset : (w.setCell ⟨b, o, none⟩ v).heap[b]? = some (.cells ((a ++ [v]) ++ c ++ d).toArray e (0, 0)) := by
        have hm : ∀ {f : Obj → Obj} {g : Obj}, w.heap[b]? = some g → (w.heap.modify b f)[b]? = some (f g) := fun hg => by simp [Array.getElem?_modify, hg]
        simp only [World.setCell]
        rw [hm hb]
        simp [← ha]
      have := setCells_block b r (a ++ [v]) c d (o + 1) _ hset (by simp [ha]) (by simpa using hc)
      show ((w.setCell ⟨b, o, none⟩ v).setCells b (o + 1) r).heap[b]? = _
      rw [this]
      simp

theorem St.head_sl {v : Value} {e : TypeId} {sz : Nat} {xs : List Value} {w : World} (s : St w0 h0 h (.sl v e sz xs :: R) w) : slOk v e sz xs (World.hp w) := (s.items (.sl v e sz xs) (by simp)).1

/-- A slice that begins its block, or none. -/
def Hd0 (v : Value) : Prop := v = .slice none 0 0 ∨ ∃ b n c, v = .slice (some ⟨b, 0, none⟩) n c ∧ c ≠ 0
/-- append onto an owned slice. -/
theorem Gs.appendB {t tx ty e sz by_ : TypeId} {v x : Value} {xs ys z : List Value} [ht : TSlice P t e sz by_] [hz : TZero P e z] [hzl : LenIs z sz] [htk : TakeS L v e sz xs R] [hsrc : SrcG P (St w0 h0 h L) sz tx x ys]
    (hb : (xs.length + ys.length) * by_ ≤ 140737488355328) (h63 : (xs.length + ys.length : Int) ≤ 9223372036854775807) (hk : ∀ v', (Hd0 v → Hd0 v') → Gs w0 h0 h (.sl v' e sz (xs ++ ys) :: R) (K v')) :
    Gs w0 h0 h L (Do P (vBuiltin .append #[t, tx] ty [v, x]) K) := ⟨fun w s => by
  obtain ⟨i, u1, u2, u3, u4, u5⟩ := ht.spec
  obtain ⟨i', zv, q1, q2, q3⟩ := hz.spec
  rw [u2] at q1
  cases q1
  have hzz := hzl.ok
  obtain ⟨n, hsr⟩ := hsrc.ok w s
  rw [← u3] at hsr
  have hyl := hsr.newsLen
  rw [u3] at hyl
  have s' := s.perm htk.perm
  have hok := s'.head_sl
  have hfp := (s'.items (.sl v e sz xs) (by simp)).2
  have hszp : 0 < sz := Nat.pos_of_ne_zero u5
  -- the lengths
  rcases hok with ⟨rfl, rfl⟩ | ⟨b, off, m, cap, pre, post, rfl, hbk, hpre, hxl, hmc, hcap⟩
  · -- nil
    by_cases hn : n = 0
    · subst hn
      have hy : ys = [] := List.eq_nil_of_length_eq_zero (by simpa using hyl)
      subst hy
      have hr : (vBuiltin .append #[t, tx] ty [.slice none 0 0, x]).run P w = .ok (.value (.slice none 0 0)) w := by
        refine run_vB (s := Builtin.append_ #[t, tx] ty #[.slice none 0 0, x]) rfl ?_
        have hc := hsr.cells
        rcases hsr.kind with ⟨e', hk'⟩ | hk' <;> simp [Builtin.append_, run_underlying u1, run_underlying hk', sizeOf, typeInfo, u2, hsr.len, hc]
      exact Do.of hr ((hk _ id).run w s')
    · have hg := run_append_grow_src (P := P) w t tx ty e i zv u1 u2 q2 none 0 0 [] (by simp [Builtin.firstCells]) x n ys hsr (by omega) (by
        have : n ≤ ys.length := by rw [hyl]; exact Nat.le_mul_of_pos_right n hszp
        simp only [List.length_nil] at h63
        omega) (by
        refine growslice_fits (by omega) ?_
        have : n ≤ ys.length := by rw [hyl]; exact Nat.le_mul_of_pos_right n hszp
        rw [u4]
        refine Nat.le_trans (Nat.mul_le_mul_right _ ?_) hb
        simp
        omega)
      refine Do.of (run_vB' rfl hg) ((hk _ (fun _ => .inr ⟨_, _, _, rfl, by have := grownCap_ge w (0 + n) 0 e; omega⟩)).run _ ?_)
      have s2 : St w0 h0 h R w := s'.sub (List.sublist_cons_self _ _)
      refine s2.drew.alloc _ (.sl _ e sz _) (fun hp' hb' => .inr ⟨w.drew.heap.size, 0, _, _, [], (Builtin.zeroCells zv.cells (grownCap w (0 + n) 0 e - (0 + n))).toList, rfl, ?_, rfl, ?_, ?_, ?_⟩) rfl
      · rw [hb']
        simp
      · simp [hyl]
      · exact grownCap_ge w _ _ _
      · have := grownCap_ge w (0 + n) 0 e
        rw [Array.length_toList, zeroCells_len, q3]
        simp only [List.size_toArray, hzz]
        rw [← Nat.add_mul]
        refine Nat.le_of_eq ?_
        congr 1
        omega
  · by_cases hroom : m + n ≤ cap
    · have hlen : ys.length ≤ post.length := by
        rw [hyl]
        have h2 : m * sz + n * sz ≤ cap * sz := by rw [← Nat.add_mul]; exact Nat.mul_le_mul_right _ hroom
        omega
      have hcells : ∀ j, w.cell? ⟨b, j, none⟩ = (pre ++ xs ++ post)[j]? := fun j => cell_of hbk j
      have hg := run_append_room_src (P := P) w t tx ty e i u1 u2 b off m cap x n ys hsr hroom (by
        intro j hj
        rw [hcells, u3]
        have : off + m * sz + j < (pre ++ xs ++ post).length := by simp; omega
        rw [List.getElem?_eq_getElem this]
        rfl) (by
        intro j hj
        unfold World.hp at hbk
        simp [World.frozen?, hbk])
      refine Do.of (run_vB' rfl hg) ((hk _ (fun hv => by
        rcases hv with hv | ⟨b', n', c', hv, hc'⟩
        · cases hv
        · cases hv; exact .inr ⟨_, _, _, rfl, hc'⟩)).run _ ?_)
      obtain ⟨f1, f2, f3, f4, f5, f6⟩ := setCells_frame b ys (off + m * i.size) w
      have hsplit : post = post.take ys.length ++ post.drop ys.length := (List.take_append_drop _ _).symm
      have hblk := setCells_block (e := e) b ys (pre ++ xs) (post.take ys.length) (post.drop ys.length) (off + m * i.size) w (by
        rw [List.append_assoc (pre ++ xs), ← hsplit]; exact hbk) (by rw [u3]; simp; omega) (by simp; omega)
      refine s'.write (it' := .sl _ e sz (xs ++ ys)) (b := b) rfl rfl f1 f2 f3 f4 f5 (.inr ⟨b, off, m + n, cap, pre, post.drop ys.length, rfl, ?_, hpre, ?_, hroom, ?_⟩) (fun _ => Nat.le_of_eq f6.symm)
      · show (w.setCells b (off + m * i.size) ys).heap[b]? = _
        rw [hblk]
        simp [List.append_assoc]
      · simp [hxl, hyl, Nat.add_mul]
      · simp [hyl, Nat.add_mul] at *
        omega
    · have hold : (Builtin.firstCells i.size m (.slice (some ⟨b, off, none⟩) m cap)).run P w.drew = .ok xs.toArray w.drew := by
        refine run_firstCells_some w.drew i.size m ⟨b, off, none⟩ m cap xs (by rw [u3]; exact hxl) ?_
        intro j u hj
        rw [add_addr]
        show w.drew.cell? ⟨b, off + j, none⟩ = some u
        have : w.drew.cell? ⟨b, off + j, none⟩ = (pre ++ xs ++ post)[off + j]? := cell_of (w := w.drew) hbk _
        rw [this, List.append_assoc, List.getElem?_append_right (by omega), List.getElem?_append_left (by
          have := (List.getElem?_eq_some_iff.1 hj).1
          omega), ← hj]
        congr 1; omega
      have hmn : m + n ≤ xs.length + ys.length := by
        rw [hxl, hyl, ← Nat.add_mul]
        exact Nat.le_mul_of_pos_right _ hszp
      have hg := run_append_grow_src (P := P) w t tx ty e i zv u1 u2 q2 (some ⟨b, off, none⟩) m cap xs hold x n ys hsr (by omega) (by omega) (by
        refine growslice_fits (by omega) ?_
        rw [u4]
        exact Nat.le_trans (Nat.mul_le_mul_right _ hmn) hb)
      refine Do.of (run_vB' rfl hg) ((hk _ (fun _ => .inr ⟨_, _, _, rfl, by have := grownCap_ge w (m + n) cap e; omega⟩)).run _ ?_)
      have s2 : St w0 h0 h R w := s'.sub (List.sublist_cons_self _ _)
      refine s2.drew.alloc _ (.sl _ e sz _) (fun hp' hb' => .inr ⟨w.drew.heap.size, 0, _, _, [], (Builtin.zeroCells zv.cells (grownCap w (m + n) cap e - (m + n))).toList, rfl, ?_, rfl, ?_, ?_, ?_⟩) rfl
      · rw [hb']
        simp
      · simp [hxl, hyl, Nat.add_mul]
      · exact grownCap_ge w _ _ _
      · have := grownCap_ge w (m + n) cap e
        rw [Array.length_toList, zeroCells_len, q3]
        simp only [List.size_toArray, hzz]
        rw [← Nat.add_mul]
        refine Nat.le_of_eq ?_
        congr 1
        omega⟩
theorem Gs.append {t tx ty e sz by_ : TypeId} {v x : Value} {xs ys z : List Value} [ht : TSlice P t e sz by_] [hz : TZero P e z] [hzl : LenIs z sz] [htk : TakeS L v e sz xs R] [hsrc : SrcG P (St w0 h0 h L) sz tx x ys]
    (hb : (xs.length + ys.length) * by_ ≤ 140737488355328) (h63 : (xs.length + ys.length : Int) ≤ 9223372036854775807) (hk : ∀ v', Gs w0 h0 h (.sl v' e sz (xs ++ ys) :: R) (K v')) :
    Gs w0 h0 h L (Do P (vBuiltin .append #[t, tx] ty [v, x]) K) := Gs.appendB hb h63 fun v' _ => hk v'
end
end Go.Sk
end

section
/-
  The walk: slices as lists of things, each of which lies in some cells.
-/
set_option linter.unusedVariables false
namespace Go.Sk
open Go Go.RowKit
variable {M : Mode}
/-- How a thing lies in cells: sz of them, each a cell's own value. -/
class Enc {α : Type} (enc : α → List Value) (sz : outParam Nat) : Prop where
  len : ∀ a, (enc a).length = sz
  flat : ∀ a, ∀ v ∈ enc a, Sk.flat v = true
def fl {α : Type} (enc : α → List Value) (l : List α) : List Value := l.flatMap enc
section
variable {α : Type} {enc : α → List Value} {sz : Nat}
theorem fl_nil : fl enc [] = [] := rfl
theorem fl_cons (a : α) (l : List α) : fl enc (a :: l) = enc a ++ fl enc l := by simp [fl]
theorem fl_append (l m : List α) : fl enc (l ++ m) = fl enc l ++ fl enc m := by simp [fl]
theorem fl_len [h : Enc enc sz] : ∀ l : List α, (fl enc l).length = l.length * sz
  | [] => by simp [fl]
  | a :: l => by rw [fl_cons, List.length_append, h.len, fl_len l, List.length_cons, Nat.add_mul]; omega
theorem fl_flat [h : Enc enc sz] (l : List α) : ∀ v ∈ fl enc l, Sk.flat v = true := by
  intro v hv
  obtain ⟨a, _, h2⟩ := List.mem_flatMap.1 hv
  exact h.flat a v h2
theorem fl_chunk [h : Enc enc sz] : ∀ (l : List α) (i : Nat) (hi : i < l.length), chunk (fl enc l) sz i = enc l[i]
  | a :: l, 0, hi => by
    unfold chunk
    rw [fl_cons, Nat.zero_mul, List.drop_zero, List.take_left' (h.len a)]
    rfl
  | a :: l, i + 1, hi => by
    have ih := fl_chunk l i (by simpa using hi)
    unfold chunk at *
    rw [fl_cons, Nat.add_mul, Nat.one_mul, Nat.add_comm (i * sz), ← List.drop_drop, List.drop_left' (h.len a), ih]
    rfl
theorem fl_take [h : Enc enc sz] : ∀ (l : List α) (i : Nat), (fl enc l).take (i * sz) = fl enc (l.take i)
  | [], i => by simp [fl]
  | a :: l, 0 => by simp [fl]
  | a :: l, i + 1 => by
    rw [fl_cons, List.take_succ_cons, fl_cons, Nat.add_mul, Nat.one_mul, Nat.add_comm (i * sz), List.take_append, h.len, List.take_of_length_le (by rw [h.len]; omega), Nat.add_sub_cancel_left, fl_take l i]
theorem fl_drop [h : Enc enc sz] : ∀ (l : List α) (i : Nat), (fl enc l).drop (i * sz) = fl enc (l.drop i)
  | [], i => by simp [fl]
  | a :: l, 0 => by simp [fl]
  | a :: l, i + 1 => by
    rw [fl_cons, List.drop_succ_cons, Nat.add_mul, Nat.one_mul, Nat.add_comm (i * sz), ← List.drop_drop, List.drop_left' (h.len a), fl_drop l i]
theorem fl_set [h : Enc enc sz] (l : List α) (i : Nat) (hi : i < l.length) (a : α) : fl enc (l.set i a) = (fl enc l).take (i * sz) ++ enc a ++ (fl enc l).drop ((i + 1) * sz) := by
  rw [fl_take, fl_drop, List.set_eq_take_append_cons_drop, if_pos hi, fl_append, fl_cons, List.append_assoc]
end
/-- Ints, strings, plain values as elements. -/
abbrev eInt : Int → List Value := fun n => [I n]
abbrev eStr : List UInt8 → List Value := fun s => [Str s]
abbrev eByte : UInt8 → List Value := fun b => [.int .u8 (b.toNat : Int)]
instance : Enc eInt 1 := ⟨fun _ => rfl, fun a v h => by simp only [eInt, List.mem_singleton] at h; subst h; rfl⟩
instance : Enc eStr 1 := ⟨fun _ => rfl, fun a v h => by simp only [eStr, List.mem_singleton] at h; subst h; rfl⟩
instance : Enc eByte 1 := ⟨fun _ => rfl, fun a v h => by simp only [eByte, List.mem_singleton] at h; subst h; rfl⟩

/-- A slice of things, read in what is frozen. -/
def RdE {α : Type} (h : Hp) (v : Value) (enc : α → List Value) (sz : Nat) (l : List α) : Prop := Rd h v sz l.length (fl enc l)
theorem RdE.mono {α : Type} {h h' : Hp} {v : Value} {enc : α → List Value} {sz : Nat} {l : List α} (hle : Hle h h') (hr : RdE h v enc sz l) : RdE h' v enc sz l := Rd.mono hle hr
theorem RdE.nil {α : Type} (h : Hp) (enc : α → List Value) (sz : Nat) : RdE h (.slice none 0 0) enc sz [] := ⟨by simp [fl], none, 0, rfl, Nat.le_refl _, .inl rfl⟩

/-- A place in an owned slice: what lies from there on. -/
def OPt (v : Value) (xs : List Value) (b o : Nat) (cs : List Value) : Prop := ∃ off n cap k, v = .slice (some ⟨b, off, none⟩) n cap ∧ o = off + k ∧ ∀ j u, cs[j]? = some u → xs[k + j]? = some u
theorem OPt.field {v : Value} {xs cs : List Value} {b o c : Nat} (hp : OPt v xs b o cs) : OPt v xs b (o + c) (cs.drop c) := by
  obtain ⟨off, n, cap, k, h1, h2, h3⟩ := hp
  exact ⟨off, n, cap, k + c, h1, by omega, fun j u e => by
    rw [List.getElem?_drop] at e
    rw [Nat.add_assoc]
    exact h3 _ _ e⟩
def SlC (v : Value) (e : TypeId) (sz : Nat) (xs : List Value) : WP := fun w => slOk v e sz xs (World.hp w)
instance (priority := 10) AddN.any {a b : Nat} : AddN a b (a + b) := ⟨rfl⟩

section
variable {P : Program} {w0 : World} {h0 h : Hp} {L R : List Itm} {K : Value → WP} {KQ : WP → Value → WP} {α : Type} {enc : α → List Value} {t ty tx e e' sz by_ by2 : Nat} {v x : Value} {l m : List α}

theorem St.sl {w : World} (s : St w0 h0 h L w) {v : Value} {e sz : Nat} {xs : List Value} (hs : Itm.sl v e sz xs ∈ L) : slOk v e sz xs (World.hp w) := (s.items _ hs).1

/-! ### What is appended -/
theorem SrcG.ofRd [ht : TSlice P tx e' sz by2] [he : Enc enc sz] (hr : RdE h x enc sz m) : SrcG P (St w0 h0 h L) sz tx x (fl enc m) := ⟨fun w s => by
  obtain ⟨i, u1, _⟩ := ht.spec
  obtain ⟨h1, a, cap, rfl, hc, h3⟩ := hr
  by_cases hm : m.length = 0
  · have hm : m = [] := List.eq_nil_of_length_eq_zero hm
    subst hm
    refine ⟨0, ⟨.inl ⟨_, u1⟩, fun _ => rfl, ?_, ?_, by simp [fl], by simp [fl]⟩⟩
    · cases a <;> simp [Builtin.firstCells, fl, loadCells, loadCellsFrom, pure]
    · cases a <;> simp [Builtin.firstCells, fl, loadCells, loadCellsFrom, pure]
  · rcases h3 with h3 | ⟨b, o, rfl, hp⟩
    · exact absurd h3 hm
    · exact ⟨m.length, Src.ofSlice w u1 ⟨b, o, none⟩ m.length cap (fl enc m) h1 (fun j u hj => by rw [add_addr]; exact hcell_cell s.frozen (hp j u hj)) (fun u hu => oneCell_of_flat (fl_flat m u hu))⟩⟩
theorem SrcG.ofOwn [ht : TSlice P tx e' sz by2] [he : Enc enc sz] {e2 : Nat} (hs : Itm.sl x e2 sz (fl enc m) ∈ L) (hsz : sz ≠ 0) : SrcG P (St w0 h0 h L) sz tx x (fl enc m) := ⟨fun w s => by
  obtain ⟨i, u1, _⟩ := ht.spec
  rcases (s.items _ hs).1 with ⟨rfl, hx⟩ | ⟨b, off, n, cap, pre, post, rfl, hb, h2, h3, h4, h5⟩
  · rw [hx]
    exact ⟨0, Src.ofNil w u1 0⟩
  · exact ⟨n, Src.ofSlice w u1 ⟨b, off, none⟩ n cap (fl enc m) h3 (fun j u hj => by
      rw [add_addr, cell_of hb, List.append_assoc, List.getElem?_append_right (by omega), List.getElem?_append_left (by
        have := (List.getElem?_eq_some_iff.1 hj).1
        omega), ← hj]
      congr 1; omega) (fun u hu => oneCell_of_flat (fl_flat m u hu))⟩⟩
theorem Gs.appendR {z : List Value} [ht : TSlice P t e sz by_] [ht2 : TSlice P tx e' sz by2] [hz : TZero P e z] [hzl : LenIs z sz] [he : Enc enc sz] [htk : TakeS L v e sz (fl enc l) R] (hr : RdE h x enc sz m)
    (hb : (l.length + m.length) * sz * by_ ≤ 140737488355328) (h63 : (l.length + m.length) * sz ≤ 9223372036854775807) (hk : ∀ v', Gs w0 h0 h (.sl v' e sz (fl enc (l ++ m)) :: R) (K v')) :
    Gs w0 h0 h L (Do P (vBuiltin .append #[t, tx] ty [v, x]) K) :=
  haveI := SrcG.ofRd (P := P) (w0 := w0) (h0 := h0) (L := L) (tx := tx) hr
  Gs.append (by rw [fl_len, fl_len, ← Nat.add_mul]; exact hb) (by rw [fl_len, fl_len]; rw [Nat.add_mul] at h63; omega) (fun v' => by have := hk v'; rw [fl_append] at this; exact this)
theorem Gs.appendO {z : List Value} [ht : TSlice P t e sz by_] [ht2 : TSlice P tx e' sz by2] [hz : TZero P e z] [hzl : LenIs z sz] [he : Enc enc sz] [htk : TakeS L v e sz (fl enc l) R] {e2 : Nat} (hs : Itm.sl x e2 sz (fl enc m) ∈ L)
    (hb : (l.length + m.length) * sz * by_ ≤ 140737488355328) (h63 : (l.length + m.length) * sz ≤ 9223372036854775807) (hk : ∀ v', Gs w0 h0 h (.sl v' e sz (fl enc (l ++ m)) :: R) (K v')) :
    Gs w0 h0 h L (Do P (vBuiltin .append #[t, tx] ty [v, x]) K) :=
  haveI := SrcG.ofOwn (P := P) (w0 := w0) (h0 := h0) (h := h) (tx := tx) hs (by obtain ⟨i, _, _, _, _, h5⟩ := ht.spec; exact h5)
  Gs.append (by rw [fl_len, fl_len, ← Nat.add_mul]; exact hb) (by rw [fl_len, fl_len]; rw [Nat.add_mul] at h63; omega) (fun v' => by have := hk v'; rw [fl_append] at this; exact this)

/-! ### Lengths -/
theorem own_len [he : Enc enc sz] (hsz : sz ≠ 0) {w : World} (hok : slOk v e sz (fl enc l) (World.hp w)) : ∃ a cap, v = .slice a l.length cap := by
  rcases hok with ⟨rfl, hx⟩ | ⟨b, off, n, cap, pre, post, rfl, hb, h2, h3, h4, h5⟩
  · have : l.length * sz = 0 := by rw [← fl_len (enc := enc), hx]; rfl
    rcases Nat.mul_eq_zero.1 this with h | h
    · rw [h]; exact ⟨_, _, rfl⟩
    · exact absurd h hsz
  · rw [fl_len] at h3
    have := Nat.eq_of_mul_eq_mul_right (Nat.pos_of_ne_zero hsz) h3
    subst this
    exact ⟨_, _, rfl⟩
theorem Gs.olen [ht : TSlice P t e sz by_] [he : Enc enc sz] [hs : Sl L v e' sz (fl enc l)] (hn : l.length ≤ 9223372036854775807) (hk : Gs w0 h0 h L (K (I l.length))) : Gs w0 h0 h L (Do P (vBuiltin .len #[t] ty [v]) K) := ⟨fun w s => by
  obtain ⟨i, _, _, _, _, h5⟩ := ht.spec
  obtain ⟨a, cap, rfl⟩ := own_len h5 (s.sl hs.mem)
  exact Do.of (run_len w) (by rw [goInt_small hn]; exact hk.run w s)⟩
theorem Gs.qolen [ht : TSlice P t e sz by_] [he : Enc enc sz] [hs : Sl L v e' sz (fl enc l)] (hn : l.length ≤ 9223372036854775807) (hk : Gs w0 h0 h L (KQ TrueC (I l.length))) : Gs w0 h0 h L (Qk P (vBuiltin .len #[t] ty [v]) KQ) := ⟨fun w s => by
  obtain ⟨i, _, _, _, _, h5⟩ := ht.spec
  obtain ⟨a, cap, rfl⟩ := own_len h5 (s.sl hs.mem)
  haveI : Yd P TrueC (vBuiltin .len #[t] ty [.slice a l.length cap]) (I l.length) := ⟨fun w _ => by rw [run_len, goInt_small hn]⟩
  exact (G.qkp hk).run w s⟩
theorem Gs.lenE [ht : TSlice P t e sz by_] (hr : RdE h v enc sz l) (hn : l.length ≤ 9223372036854775807) (hk : Gs w0 h0 h L (K (I l.length))) : Gs w0 h0 h L (Do P (vBuiltin .len #[t] ty [v]) K) := Gs.len hr hn hk
theorem Gs.qlenE [ht : TSlice P t e sz by_] (hr : RdE h v enc sz l) (hn : l.length ≤ 9223372036854775807) (hk : Gs w0 h0 h L (KQ TrueC (I l.length))) : Gs w0 h0 h L (Qk P (vBuiltin .len #[t] ty [v]) KQ) := Gs.qlen hr hn hk

/-! ### Elements -/
theorem Gs.indexE {k : IntKind} {i : Nat} [ht : TSlice P t e sz by_] [he : Enc enc sz] (hr : RdE h v enc sz l) (hi : i < l.length) (hk : ∀ b o, PtAt h b o (enc l[i]) → Gs w0 h0 h L (K (ptr b o))) : Gs w0 h0 h L (Do P (V (Instr.indexAt t v (.int k i))) K) :=
  Gs.index hr ⟨by omega, by omega⟩ (fun b o hp => hk b o (by rw [Int.toNat_natCast, fl_chunk l i hi] at hp; exact hp))
theorem Gs.qindexE {k : IntKind} {i : Nat} [ht : TSlice P t e sz by_] [he : Enc enc sz] (hr : RdE h v enc sz l) (hi : i < l.length) (hk : ∀ b o, PtAt h b o (enc l[i]) → Gs w0 h0 h L (KQ TrueC (ptr b o))) : Gs w0 h0 h L (Qk P (V (Instr.indexAt t v (.int k i))) KQ) :=
  Gs.qindex hr ⟨by omega, by omega⟩ (fun b o hp => hk b o (by rw [Int.toNat_natCast, fl_chunk l i hi] at hp; exact hp))
theorem own_at {i : Nat} [he : Enc enc sz] (hi : i < l.length) {w : World} (hsz : sz ≠ 0) (hok : slOk v e sz (fl enc l) (World.hp w)) : ∃ b off cap, v = .slice (some ⟨b, off, none⟩) l.length cap ∧ OPt v (fl enc l) b (off + i * sz) (enc l[i]) := by
  rcases hok with ⟨rfl, hx⟩ | ⟨b, off, n, cap, pre, post, rfl, hb, h2, h3, h4, h5⟩
  · have : l.length * sz = 0 := by rw [← fl_len (enc := enc), hx]; rfl
    rcases Nat.mul_eq_zero.1 this with h | h
    · omega
    · exact absurd h hsz
  · rw [fl_len] at h3
    have := Nat.eq_of_mul_eq_mul_right (Nat.pos_of_ne_zero hsz) h3
    subst this
    refine ⟨b, off, cap, rfl, off, _, cap, i * sz, rfl, rfl, fun j u e => ?_⟩
    rw [← fl_chunk (enc := enc) l i hi] at e
    exact chunk_get e
theorem Gs.oindex {k : IntKind} {i : Nat} [ht : TSlice P t e sz by_] [he : Enc enc sz] [hs : Sl L v e' sz (fl enc l)] (hi : i < l.length) (hk : ∀ b o, OPt v (fl enc l) b o (enc l[i]) → Gs w0 h0 h L (K (ptr b o))) : Gs w0 h0 h L (Do P (V (Instr.indexAt t v (.int k i))) K) := ⟨fun w s => by
  obtain ⟨_, _, _, _, _, h5⟩ := ht.spec
  obtain ⟨b, off, cap, rfl, hp⟩ := own_at hi h5 (s.sl hs.mem)
  have := indexAt_run (P := P) (t := t) (cap := cap) (b := b) (o := off) (k := k) (i := (i : Int)) (n := l.length) (by omega) w
  rw [Int.toNat_natCast] at this
  exact Do.of this ((hk _ _ hp).run w s)⟩
theorem Gs.qoindex {k : IntKind} {i : Nat} [ht : TSlice P t e sz by_] [he : Enc enc sz] [hs : Sl L v e' sz (fl enc l)] (hi : i < l.length) (hk : ∀ b o, OPt v (fl enc l) b o (enc l[i]) → Gs w0 h0 h L (KQ TrueC (ptr b o))) : Gs w0 h0 h L (Qk P (V (Instr.indexAt t v (.int k i))) KQ) := ⟨fun w s => by
  obtain ⟨_, _, _, _, _, h5⟩ := ht.spec
  obtain ⟨b, off, cap, rfl, hp⟩ := own_at hi h5 (s.sl hs.mem)
  haveI : Yd P TrueC (V (Instr.indexAt t (.slice (some ⟨b, off, none⟩) l.length cap) (.int k i))) (ptr b (off + i * sz)) := ⟨fun w _ => by
    have := indexAt_run (P := P) (t := t) (cap := cap) (b := b) (o := off) (k := k) (i := (i : Int)) (n := l.length) (by omega) w
    rw [Int.toNat_natCast] at this
    exact this⟩
  exact (G.qkp (hk _ _ hp)).run w s⟩
theorem OPt.cell {xs cs : List Value} {b o : Nat} (hp : OPt v xs b o cs) {w : World} (hok : slOk v e sz xs (World.hp w)) {j : Nat} {u : Value} (hj : cs[j]? = some u) : w.cell? ⟨b, o + j, none⟩ = some u := by
  obtain ⟨off, n, cap, k, rfl, rfl, hx⟩ := hp
  rcases hok with ⟨hv, _⟩ | ⟨b', off', n', cap', pre, post, hv, hb, h2, h3, h4, h5⟩
  · cases hv
  · cases hv
    have hxj := hx j u hj
    have hlt := (List.getElem?_eq_some_iff.1 hxj).1
    rw [cell_of hb, List.append_assoc, List.getElem?_append_right (by omega), List.getElem?_append_left (by omega), ← hxj]
    congr 1; omega
theorem oloadP1 {te b o : Nat} {xs cs : List Value} {u : Value} [TOne P te] (hp : OPt v xs b o (u :: cs)) : Yd P (SlC v e sz xs) (V (Instr.loadAt te (ptr b o))) u :=
  ⟨fun w s => loadAt_run (run_loadVar_one (by have := hp.cell s (j := 0) rfl; simpa using this))⟩
theorem oloadPN {te n b o : Nat} {xs cs : List Value} [ht : TAgg P te n] (hp : OPt v xs b o cs) (hn : cs.length = n) : Yd P (SlC v e sz xs) (V (Instr.loadAt te (ptr b o))) (.agg cs.toArray) :=
  ⟨fun w s => loadAt_run (by
    obtain ⟨d, i, h1, h2, h3, h4⟩ := ht.spec
    unfold loadVar
    simp only [Sem.run_bind, run_isAgg h1, h3, Result.andThen_ok, if_true, run_sizeOf h2]
    unfold loadCells
    rw [h4, ← hn, runLCF' cs 0 #[] (fun j u e => by have := hp.cell s e; simpa using this)]
    simp [pure])⟩
theorem Gs.oload1 {te b o : Nat} {xs cs : List Value} {u : Value} [TOne P te] [hs : Sl L v e sz xs] (hp : OPt v xs b o (u :: cs)) (hk : Gs w0 h0 h L (K u)) : Gs w0 h0 h L (Do P (V (Instr.loadAt te (ptr b o))) K) := ⟨fun w s =>
  Do.of ((Sk.oloadP1 (e := e) (sz := sz) hp).run w (s.sl hs.mem)) (hk.run w s)⟩
theorem Gs.oloadN {te n b o : Nat} {xs cs : List Value} [ht : TAgg P te n] [hs : Sl L v e sz xs] (hp : OPt v xs b o cs) (hn : cs.length = n) (hk : Gs w0 h0 h L (K (.agg cs.toArray))) : Gs w0 h0 h L (Do P (V (Instr.loadAt te (ptr b o))) K) := ⟨fun w s =>
  Do.of ((Sk.oloadPN (e := e) (sz := sz) hp hn).run w (s.sl hs.mem)) (hk.run w s)⟩
theorem Gs.qoload1 {te b o : Nat} {xs cs : List Value} {u : Value} [TOne P te] [hs : Sl L v e sz xs] (hp : OPt v xs b o (u :: cs)) (hk : Gs w0 h0 h L (KQ (SlC v e sz xs) u)) : Gs w0 h0 h L (Qk P (V (Instr.loadAt te (ptr b o))) KQ) :=
  haveI := Sk.oloadP1 (P := P) (te := te) (e := e) (sz := sz) hp
  G.qk (SlC v e sz xs) (fun w s => s.sl hs.mem) hk
theorem Gs.qoloadN {te n b o : Nat} {xs cs : List Value} [ht : TAgg P te n] [hs : Sl L v e sz xs] (hp : OPt v xs b o cs) (hn : cs.length = n) (hk : Gs w0 h0 h L (KQ (SlC v e sz xs) (.agg cs.toArray))) : Gs w0 h0 h L (Qk P (V (Instr.loadAt te (ptr b o))) KQ) :=
  haveI := Sk.oloadPN (P := P) (te := te) (e := e) (sz := sz) hp hn
  G.qk (SlC v e sz xs) (fun w s => s.sl hs.mem) hk
theorem Gs.withsl {X : WP} {xs : List Value} [hs : Sl L v e sz xs] (hk : Gs w0 h0 h L X) : Gs w0 h0 h L (With (SlC v e sz xs) X) := G.with (fun w s => s.sl hs.mem) hk

/-! ### Stores -/
theorem Gs.ostore {te n b o c i : Nat} {u : Value} {cs pa pc : List Value} {a : α} [ht : TSize P te n] [hc : Cells u cs] [hl : Flat cs] [hln : LenIs cs n] [he : Enc enc sz] [htk : TakeS L v e sz (fl enc l) R] (hi : i < l.length)
    (hp : OPt v (fl enc l) b o pc) (ho : ∃ off n cap, v = .slice (some ⟨b, off, none⟩) n cap ∧ o = off + i * sz) (hset : enc a = (enc l[i]).take c ++ cs ++ (enc l[i]).drop (c + n)) (hcn : c + n ≤ sz)
    (hk : Gs w0 h0 h (.sl v e sz (fl enc (l.set i a)) :: R) (K undef)) : Gs w0 h0 h L (Do P (U (Instr.storeAt te (ptr b (o + c)) u)) K) := Gs.perm htk.perm ⟨fun w s => by
  have hn := hln.ok
  obtain ⟨inf, h1, h2⟩ := ht.spec
  obtain ⟨off, n', cap, rfl, rfl⟩ := ho
  have hok := s.head_sl
  rcases hok with ⟨hv, _⟩ | ⟨b', off', n2, cap', pre, post, hv, hb, h3, h4, h5, h6⟩
  · cases hv
  · cases hv
    have hle : (i + 1) * sz ≤ l.length * sz := Nat.mul_le_mul_right _ hi
    have hlen := fl_len (enc := enc) l
    have hel := he.len l[i]
    have hsplit : fl enc l = (fl enc l).take (i * sz) ++ enc l[i] ++ (fl enc l).drop ((i + 1) * sz) := by
      have := fl_set (enc := enc) l i hi l[i]
      rw [List.set_getElem_self] at this
      exact this
    have hes : enc l[i] = (enc l[i]).take c ++ ((enc l[i]).drop c).take n ++ (enc l[i]).drop (c + n) := by
      rw [List.append_assoc, ← List.drop_drop, List.take_append_drop, List.take_append_drop]
    have hi1 : i * sz + sz ≤ l.length * sz := by rw [← Nat.succ_mul]; exact hle
    have hbk : w.heap[b]? = some (.cells ((pre ++ (fl enc l).take (i * sz) ++ (enc l[i]).take c) ++ ((enc l[i]).drop c).take n ++ ((enc l[i]).drop (c + n) ++ (fl enc l).drop ((i + 1) * sz) ++ post)).toArray e (0, 0)) := by
      have hb' : w.heap[b]? = some (.cells (pre ++ fl enc l ++ post).toArray e (0, 0)) := hb
      rw [hb']
      congr 3
      conv => lhs; rw [hsplit]; rw [hes]
      simp only [List.append_assoc]
    obtain ⟨w', g1, g2, g3, g4, g5, g6, g7, g8⟩ := run_storeCells (P := P) cs _ _ _ (off + i * sz + c) 0 w hbk (by simp; omega) (by simp; omega) (fun v hv a => ⟨fun e => (by have := hl.ok v hv; rw [e] at this; cases this), fun e => (by have := hl.ok v hv; rw [e] at this; cases this)⟩)
    have hr : (U (Instr.storeAt te (ptr b (off + i * sz + c)) u)).run P w = .ok .skip w' := by
      have hsz : u.cells.size = inf.size := by rw [hc.ok, h2, ← hn]; simp
      have h1' : (sizeOf te).run P w = .ok inf.size w := run_sizeOf h1 w
      have hsv : (storeVar te ⟨b, off + i * sz + c, none⟩ u).run P w = .ok () w' := by
        unfold storeVar
        rw [Sem.run_bind, h1', Result.andThen_ok, if_neg (fun h => h hsz), hc.ok]
        exact g1
      unfold U Instr.storeAt Instr.sureAddr
      rw [Sem.run_bind]
      show Result.andThen (Sem.run P (storeVar te ⟨b, off + i * sz + c, none⟩ u) w) _ = _
      rw [hsv]
      rfl
    refine Do.of hr (hk.run w' (s.write (it' := .sl _ e sz (fl enc (l.set i a))) (b := b) rfl rfl g4 g5 g6 g7 g3 (.inr ⟨b, off, n', cap, pre, post, rfl, ?_, h3, ?_, h5, h6⟩) (fun _ => Nat.le_of_eq g8.symm)))
    · show w'.heap[b]? = _
      rw [g2]
      congr 3
      rw [fl_set l i hi a, hset]
      simp only [List.append_assoc]
    · rw [fl_len, List.length_set, ← fl_len (enc := enc), h4]⟩
end
end Go.Sk
end

section
/-
  The walk: slices cut, made, frozen.
-/
set_option linter.unusedVariables false
namespace Go.Sk
open Go Go.RowKit
variable {M : Mode}
section
variable {P : Program} {w0 : World} {h0 h : Hp} {L R : List Itm} {K : Value → WP} {KQ : WP → Value → WP} {α : Type} {enc : α → List Value} {t ty tx e e' sz by_ by2 : Nat} {v x : Value} {l m : List α}
/-- The bounds of a cut: from lo to hi of n. -/
def cutLo (lo : Option Int) : Nat := match lo with | some i => i.toNat | none => 0
def cutHi (hi : Option Int) (n : Nat) : Nat := match hi with | some i => i.toNat | none => n
def optI (x : Option Int) : Option Value := match x with | some i => some (I i) | none => none
theorem run_sliceBoundI {i : Int} {y : Nat} {code : BoundsCode} (h0 : 0 ≤ i) (h1 : i ≤ y) (w : World) : (Instr.sliceBound (I i) y code).run P w = .ok i.toNat w := by
  unfold Instr.sliceBound
  simp only [asIntOf]
  show Sem.run P (Sem.bind (Sem.pure _) _) w = _
  simp only [Sem.bind, if_pos (show 0 ≤ i ∧ i ≤ (y : Int) from ⟨h0, h1⟩)]
  rfl
theorem run_cut [ht : TSlice P t e sz by_] {a : Option Addr} {n cap : Nat} {lo hi : Option Int} (hn : n ≤ cap) (h1 : cutLo lo ≤ cutHi hi n) (h2 : cutHi hi n ≤ cap) (hlo : ∀ i, lo = some i → 0 ≤ i) (hhi : ∀ i, hi = some i → 0 ≤ i) (w : World) :
    (V (Instr.sliceAt t (.slice a n cap) (optI lo) (optI hi) none)).run P w = .ok (.value (.slice (if cap = cutLo lo then a else a.map (·.add (cutLo lo * sz))) (cutHi hi n - cutLo lo) (cap - cutLo lo))) w := by
  obtain ⟨i, u1, u2, u3, u4, u5⟩ := ht.spec
  refine V_run ?_
  have hb : (Instr.sliceBounds true n cap (optI lo) (optI hi) none).run P w = .ok (cutLo lo, cutHi hi n, cap) w := by
    unfold Instr.sliceBounds
    cases lo with
    | none =>
      cases hi with
      | none => rfl
      | some k =>
        have hk := hhi k rfl
        have e1 := run_sliceBoundI (P := P) (y := cap) (code := .sliceAcap) hk (by simp only [cutHi] at h2; omega) w
        simp only [optI, cutLo, cutHi, Sem.run_bind, run_pure, Result.andThen_ok, if_true, e1]
    | some j =>
      have hj := hlo j rfl
      cases hi with
      | none =>
        have e1 := run_sliceBoundI (P := P) (y := n) (code := .sliceB) hj (by simp only [cutHi, cutLo] at h1; omega) w
        simp only [optI, cutLo, cutHi, Sem.run_bind, run_pure, Result.andThen_ok, Option.isSome_none, Bool.false_eq_true, if_false, e1]
      | some k =>
        have hk := hhi k rfl
        have e1 := run_sliceBoundI (P := P) (y := cap) (code := .sliceAcap) hk (by simp only [cutHi] at h2; omega) w
        have e2 := run_sliceBoundI (P := P) (y := k.toNat) (code := .sliceB) hj (by simp only [cutHi, cutLo] at h1; omega) w
        simp only [optI, cutLo, cutHi, Sem.run_bind, run_pure, Result.andThen_ok, Option.isSome_none, Bool.false_eq_true, if_false, if_true, e1, e2]
  unfold Instr.sliceAt
  rw [Sem.run_bind, runU u1]
  simp only [Result.andThen_ok]
  unfold Instr.slice
  simp only [Sem.run_bind, runU u1, Result.andThen_ok, hb, run_sizeOf u2, u3, run_pure]

/-- A cut of a frozen slice. -/
theorem RdE.cut [he : Enc enc sz] {n cap : Nat} {a : Option Addr} {lo hi : Nat} (hr : RdE h (.slice a n cap) enc sz l) (h1 : lo ≤ hi) (h2 : hi ≤ l.length) :
    RdE h (.slice (if cap = lo then a else a.map (·.add (lo * sz))) (hi - lo) (cap - lo)) enc sz ((l.take hi).drop lo) := by
  obtain ⟨g1, a', cap', g2, g3, g4⟩ := hr
  cases g2
  have hl : ((l.take hi).drop lo).length = hi - lo := by simp; omega
  refine ⟨fl_len _, _, cap - lo, by rw [hl], by rw [hl]; omega, ?_⟩
  rw [hl]
  rcases g4 with g4 | ⟨b, o, rfl, hp⟩
  · exact .inl (by omega)
  · by_cases hz : hi - lo = 0
    · exact .inl hz
    · refine .inr ⟨b, o + lo * sz, ?_, ?_⟩
      · rw [if_neg (by omega)]
        simp [add_addr]
      · intro j u hj
        rw [← fl_drop, List.getElem?_drop, ← fl_take, List.getElem?_take] at hj
        split at hj
        · have := hp _ _ hj
          rw [Nat.add_assoc]
          exact this
        · cases hj
theorem Gs.cutR [ht : TSlice P t e sz by_] [he : Enc enc sz] {lo hi : Option Int} (hr : RdE h v enc sz l) (h1 : cutLo lo ≤ cutHi hi l.length) (h2 : cutHi hi l.length ≤ l.length) (hlo : ∀ i, lo = some i → 0 ≤ i) (hhi : ∀ i, hi = some i → 0 ≤ i)
    (hk : ∀ v', RdE h v' enc sz ((l.take (cutHi hi l.length)).drop (cutLo lo)) → Gs w0 h0 h L (K v')) : Gs w0 h0 h L (Do P (V (Instr.sliceAt t v (optI lo) (optI hi) none)) K) := ⟨fun w s => by
  have hr' := hr
  obtain ⟨g1, a, cap, rfl, g3, g4⟩ := hr
  exact Do.of (run_cut g3 h1 (by omega) hlo hhi w) ((hk _ (RdE.cut hr' h1 h2)).run w s)⟩
theorem Gs.qcutR [ht : TSlice P t e sz by_] [he : Enc enc sz] {lo hi : Option Int} (hr : RdE h v enc sz l) (h1 : cutLo lo ≤ cutHi hi l.length) (h2 : cutHi hi l.length ≤ l.length) (hlo : ∀ i, lo = some i → 0 ≤ i) (hhi : ∀ i, hi = some i → 0 ≤ i)
    (hk : ∀ v', RdE h v' enc sz ((l.take (cutHi hi l.length)).drop (cutLo lo)) → Gs w0 h0 h L (KQ TrueC v')) : Gs w0 h0 h L (Qk P (V (Instr.sliceAt t v (optI lo) (optI hi) none)) KQ) := by
  have hr' := hr
  obtain ⟨g1, a, cap, rfl, g3, g4⟩ := hr
  haveI : Yd P TrueC (V (Instr.sliceAt t (.slice a l.length cap) (optI lo) (optI hi) none)) _ := ⟨fun w _ => run_cut g3 h1 (by omega) hlo hhi w⟩
  exact G.qkp (hk _ (RdE.cut hr' h1 h2))
/-- A cut of an owned slice: the old one is gone. -/
theorem Gs.cutO [ht : TSlice P t e sz by_] [he : Enc enc sz] {lo hi : Option Int} [htk : TakeS L v e sz (fl enc l) R] (h1 : cutLo lo ≤ cutHi hi l.length) (h2 : cutHi hi l.length ≤ l.length) (hlo : ∀ i, lo = some i → 0 ≤ i) (hhi : ∀ i, hi = some i → 0 ≤ i)
    (hk : ∀ v', Gs w0 h0 h (.sl v' e sz (fl enc ((l.take (cutHi hi l.length)).drop (cutLo lo))) :: R) (K v')) : Gs w0 h0 h L (Do P (V (Instr.sliceAt t v (optI lo) (optI hi) none)) K) := Gs.perm htk.perm ⟨fun w s => by
  obtain ⟨inf, u1, u2, u3, u4, u5⟩ := ht.spec
  have hfp := (s.items (.sl v e sz (fl enc l)) (by simp)).2
  have hok := s.head_sl
  obtain ⟨a, cap, hv⟩ := own_len u5 hok
  rcases hok with ⟨rfl, hx⟩ | ⟨b, off, n, cap', pre, post, rfl, hb, g2, g3, g4, g5⟩
  · have hl : l = [] := by
      have : l.length * sz = 0 := by rw [← fl_len (enc := enc), hx]; rfl
      rcases Nat.mul_eq_zero.1 this with h | h
      · exact List.eq_nil_of_length_eq_zero h
      · exact absurd h u5
    subst hl
    have h1 : cutLo lo ≤ cutHi hi 0 := h1
    have h2 : cutHi hi 0 ≤ 0 := h2
    have hc := run_cut (P := P) (t := t) (a := none) (n := 0) (cap := 0) (Nat.le_refl _) h1 h2 hlo hhi w
    have hhi0 : cutHi hi 0 = 0 := by omega
    have hlo0 : cutLo lo = 0 := by omega
    rw [hlo0, hhi0] at hc
    refine Do.of hc ((hk _).run w ?_)
    rw [List.take_nil, List.drop_nil]
    exact s
  · cases hv
    rw [fl_len] at g3
    have hc := run_cut (P := P) (t := t) (a := some ⟨b, off, none⟩) g4 h1 (by omega) hlo hhi w
    generalize hlo' : cutLo lo = lo' at *
    generalize hhi' : cutHi hi l.length = hi' at *
    refine Do.of hc ((hk _).run w ?_)
    have haddr : (if cap = lo' then (some (⟨b, off, none⟩ : Addr)) else (some (⟨b, off, none⟩ : Addr)).map (·.add (lo' * sz))) = some ⟨b, if cap = lo' then off else off + lo' * sz, none⟩ := by
      split
      · rfl
      · simp [add_addr]
    rw [haddr]
    have hlen := fl_len (enc := enc) l
    have hsp : fl enc l = (fl enc l).take (lo' * sz) ++ fl enc ((l.take hi').drop lo') ++ (fl enc l).drop (hi' * sz) := by
      rw [fl_take, fl_drop, ← fl_append, ← fl_append]
      congr 1
      conv => lhs; rw [← List.take_append_drop hi' l, ← List.take_append_drop lo' (l.take hi'), List.take_take, Nat.min_eq_left h1]
    have hmul : lo' * sz ≤ hi' * sz := Nat.mul_le_mul_right _ h1
    have hmul2 : hi' * sz ≤ l.length * sz := Nat.mul_le_mul_right _ h2
    have hmul3 : l.length * sz ≤ cap * sz := Nat.mul_le_mul_right _ g4
    have hsub : (hi' - lo') * sz = hi' * sz - lo' * sz := Nat.sub_mul ..
    have hsub2 : (cap - lo') * sz = cap * sz - lo' * sz := Nat.sub_mul ..
    by_cases hcl : cap = lo'
    · rw [if_pos hcl]
      refine s.write (it' := .sl _ e sz _) (b := b) rfl rfl rfl rfl rfl rfl (fun _ _ => rfl) (.inr ⟨b, off, hi' - lo', cap - lo', pre, fl enc l ++ post, rfl, ?_, g2, ?_, by omega, ?_⟩)
      · have hz : (l.take hi').drop lo' = [] := by
          apply List.eq_nil_of_length_eq_zero
          simp
          omega
        rw [hz]
        have hb' : World.hp w b = some (.cells (pre ++ fl enc l ++ post).toArray e (0, 0)) := hb
        rw [hb']
        simp [fl, List.append_assoc]
      · rw [fl_len]; congr 1; simp; omega
      · simp only [List.length_append, hlen]
        omega
    · rw [if_neg hcl]
      refine s.write (it' := .sl _ e sz _) (b := b) rfl rfl rfl rfl rfl rfl (fun _ _ => rfl) (.inr ⟨b, off + lo' * sz, hi' - lo', cap - lo', pre ++ (fl enc l).take (lo' * sz), (fl enc l).drop (hi' * sz) ++ post, rfl, ?_, ?_, ?_, by omega, ?_⟩)
      · have hb' : World.hp w b = some (.cells (pre ++ fl enc l ++ post).toArray e (0, 0)) := hb
        rw [hb']
        congr 3
        conv => lhs; rw [hsp]
        simp only [List.append_assoc]
      · simp; omega
      · rw [fl_len]; congr 1; simp; omega
      · simp; omega⟩

/-- make. -/
theorem Gs.make {kl kc : IntKind} {c : Int} {z : List Value} {a0 : α} [ht : TSlice P t e sz by_] [hz : TZero P e z] [he : Enc enc sz] (hza : enc a0 = z) (h0c : 0 ≤ c) (hb : (by_ : Int) * c ≤ 281474976710656) (h63 : c ≤ 9223372036854775807)
    (hk : ∀ v, Gs w0 h0 h (.sl v e sz (fl enc (List.replicate c.toNat a0)) :: L) (K v)) : Gs w0 h0 h L (Do P (V (Instr.makeSlice t (.int kl c) (.int kc c))) K) := ⟨fun w s => by
  obtain ⟨i, u1, u2, u3, u4, u5⟩ := ht.spec
  obtain ⟨i', zv, q1, q2, q3⟩ := hz.spec
  rw [u2] at q1
  cases q1
  have hr := run_make (P := P) w t e i zv u1 u2 q2 kl kc c c h0c (Int.le_refl _) (by rw [u4]; exact hb) h63
  refine Do.of (V_run' hr) ((hk _).run _ (s.alloc _ (.sl _ e sz _) (fun hp' hb' => .inr ⟨w.heap.size, 0, c.toNat, c.toNat, [], [], rfl, ?_, rfl, ?_, Nat.le_refl _, by simp⟩) rfl))
  · rw [hb']
    congr 2
    apply Array.ext'
    simp only [List.nil_append, List.append_nil]
    rw [q3, ← hza, u3]
    unfold madeCells
    apply List.ext_getElem?
    intro j
    have hlz : (enc a0).length = sz := he.len a0
    have hlr := fl_len (enc := enc) (List.replicate c.toNat a0)
    rw [List.length_replicate] at hlr
    by_cases hj : j < c.toNat * sz
    · have hi : j / sz < (List.replicate c.toNat a0).length := by
        rw [List.length_replicate]
        exact (Nat.div_lt_iff_lt_mul (Nat.pos_of_ne_zero u5)).2 hj
      have hm : j % sz < sz := Nat.mod_lt _ (Nat.pos_of_ne_zero u5)
      have hch := fl_chunk (enc := enc) (List.replicate c.toNat a0) (j / sz) hi
      rw [List.getElem_replicate] at hch
      have hget : (chunk (fl enc (List.replicate c.toNat a0)) sz (j / sz))[j % sz]? = some ((enc a0)[j % sz]'(by omega)) := by rw [hch]; exact List.getElem?_eq_getElem _
      have := chunk_get hget
      rw [Nat.div_add_mod' j sz] at this
      rw [this]
      simp [hj, hlz, hm]
    · rw [List.getElem?_eq_none (by simp; omega), List.getElem?_eq_none (by rw [hlr]; omega)]
  · rw [fl_len, List.length_replicate]⟩

/-- What is owned becomes frozen. -/
theorem Gs.freezeE {X : WP} [he : Enc enc sz] [ht : TakeS L v e sz (fl enc l) R] (hsz : sz ≠ 0) (hk : ∀ h', Hle h h' → RdE h' v enc sz l → Gs w0 h0 h' R X) : Gs w0 h0 h L X :=
  Gs.freeze (v := v) (fun h' hle hr => hk h' hle (hr l.length (fl_len l) hsz))
end
end Go.Sk
end

section
/-
  The walk: closures with what they captured; nil slices; append onto what is frozen; rows put anew by the library.
-/
set_option linter.unusedVariables false
namespace Go.Sk
open Go Go.RowKit
variable {M : Mode}
section
variable {P : Program} {w0 : World} {h0 h : Hp} {L R : List Itm} {K : Value → WP} {KQ : WP → Value → WP} {S : WP} {α : Type} {enc : α → List Value} {t ty tx e e' sz by_ by2 : Nat} {v x : Value} {l m : List α}
theorem G.caps {f : FuncId} [IsGo P f] {args caps : List Value} (hk : G S (Do P (vCall (.func (.func f) #[] ⟨[]⟩) (args ++ caps)) K)) : G S (Do P (vCall (.func (.func f) #[] ⟨caps⟩) args) K) := ⟨fun w hw => Do.of (run_vCall _ _ _) (by
  obtain ⟨h⟩ := hk.run w hw
  rw [run_vCall, List.append_nil] at h
  exact h)⟩
theorem G.capsA {f : FuncId} [IsGo P f] {args caps all : List Value} (ha : args ++ caps = all) (hk : G S (Do P (vCall (.func (.func f) #[] ⟨[]⟩) all) K)) : G S (Do P (vCall (.func (.func f) #[] ⟨caps⟩) args) K) := by
  subst ha; exact G.caps hk
theorem G.indexVN {n e sz : Nat} {k : IntKind} {i : Int} {l s : List Value} [ht : TArr P t n e sz] [h1 : TAgg P e sz] (hi : 0 ≤ i ∧ i < n) (hs : (l.drop (i.toNat * sz)).take sz = s) (hl : l.length = n * sz) (hk : G S (K (.agg s.toArray))) : G S (Do P (V (Instr.index t (.agg l.toArray) (.int k i))) K) :=
  haveI : Yd P S (V (Instr.index t (.agg l.toArray) (.int k i))) (.agg s.toArray) := Yd.of fun w => by
    have h := ht.ok
    unfold arrB at h
    cases hu : P.underlying t with
    | none => rw [hu] at h; cases h
    | some d =>
      rw [hu] at h
      cases d <;> try (cases h; done)
      rename_i n' e'
      cases hi' : P.info? e with
      | none => rw [hi'] at h; cases h
      | some inf =>
        rw [hi'] at h
        simp only [Bool.and_eq_true] at h
        obtain ⟨⟨g1, g2⟩, g3⟩ := h
        have g1 := Nat.eq_of_beq_eq_true g1
        have g2 := Nat.eq_of_beq_eq_true g2
        have g3 := Nat.eq_of_beq_eq_true g3
        subst g1 g2
        obtain ⟨d, j, q1, q2, q3, q4⟩ := h1.spec
        unfold Instr.index
        show Sem.run P (Sem.bind (asIntOf (.int k i)) _) w = _
        simp only [asIntOf]
        show Sem.run P (Sem.bind (Sem.pure _) _) w = _
        simp only [Sem.bind]
        rw [Sem.run_bind, runU hu]
        simp only [Result.andThen_ok, if_pos hi, Sem.run_bind, run_sizeOf hi', g3]
        unfold part
        simp only [Sem.run_bind, run_isAgg q1, q3, Result.andThen_ok, if_true, run_sizeOf q2, q4]
        rw [← hs]
        have hlt : i.toNat < n := by omega
        have : i.toNat * sz + sz ≤ n * sz := by rw [← Nat.succ_mul]; exact Nat.mul_le_mul_right _ hlt
        simp [pure]
  G.step hk
/-- A slice held against nil. -/
theorem Yd.snil {x : Operand} {a : Option Addr} {n cap : Nat} [ht : TSlice P t e sz by_] : Yd P S (V (EqG .eql t x (.const (.slice none 0 0)) (.slice a n cap) (.slice none 0 0))) (.bool a.isNone) := Yd.of fun w => by
  obtain ⟨i, u1, _⟩ := ht.spec
  have h : ∀ d : Nat, (Op.equalIn (d + 1) t (.slice a n cap) (.slice none 0 0)).run P w = .ok a.isNone w := fun d => by cases a <;> simp [Op.equalIn, run_underlying u1]
  simp [EqG, eqGuard, binOp, Op.equal, Op.maxDepth, h 9999]
theorem Gs.snil {x : Operand} [ht : TSlice P t e sz by_] (hr : RdE h v enc sz l) (hk : ∀ b, (b = true → l = []) → Gs w0 h0 h L (K (.bool b))) : Gs w0 h0 h L (Do P (V (EqG .eql t x (.const (.slice none 0 0)) v (.slice none 0 0))) K) := by
  obtain ⟨g1, a, cap, rfl, g3, g4⟩ := hr
  haveI := Yd.snil (P := P) (S := St w0 h0 h L) (t := t) (x := x) (a := a) (n := l.length) (cap := cap)
  refine G.step (hk _ fun ha => ?_)
  rcases g4 with g4 | ⟨b, o, rfl, _⟩
  · exact List.eq_nil_of_length_eq_zero g4
  · cases ha
/-- append onto a frozen slice without room: what comes is frozen too. -/
theorem Gs.appendF {z : List Value} {a : Option Addr} [ht : TSlice P t e sz by_] [ht2 : TSlice P tx e' sz by2] [hz : TZero P e z] [hzl : LenIs z sz] [he : Enc enc sz] (hr0 : RdE h (.slice a l.length l.length) enc sz l) (hsrc : SrcG P (St w0 h0 h L) sz tx x (fl enc m))
    (hb : (l.length + m.length) * by_ ≤ 140737488355328) (h63 : (l.length + m.length : Int) ≤ 9223372036854775807) (hk : ∀ v' h', Hle h h' → RdE h' v' enc sz (l ++ m) → Gs w0 h0 h' L (K v')) :
    Gs w0 h0 h L (Do P (vBuiltin .append #[t, tx] ty [.slice a l.length l.length, x]) K) := ⟨fun w s => by
  obtain ⟨i, u1, u2, u3, u4, u5⟩ := ht.spec
  obtain ⟨i', zv, q1, q2, q3⟩ := hz.spec
  rw [u2] at q1
  cases q1
  have hzz := hzl.ok
  obtain ⟨n, hsr⟩ := hsrc.ok w s
  rw [← u3] at hsr
  have hyl := hsr.newsLen
  rw [u3, fl_len] at hyl
  have hszp : 0 < sz := Nat.pos_of_ne_zero u5
  have hn : m.length = n := Nat.eq_of_mul_eq_mul_right hszp hyl
  by_cases hm : n = 0
  · subst hm
    have hm : m = [] := List.eq_nil_of_length_eq_zero hn
    subst hm
    have hc := hsr.cells
    have hr : (vBuiltin .append #[t, tx] ty [.slice a l.length l.length, x]).run P w = .ok (.value (.slice a l.length l.length)) w := by
      refine run_vB (s := Builtin.append_ #[t, tx] ty #[.slice a l.length l.length, x]) rfl ?_
      have hcs : ∀ b : Addr, (storeCells b [] 0).run P w = .ok () w := fun b => rfl
      cases a <;> rcases hsr.kind with ⟨e', hk'⟩ | hk' <;> simp [Builtin.append_, run_underlying u1, run_underlying hk', sizeOf, typeInfo, u2, hsr.len, hc, fl, hcs]
    refine Do.of hr ((hk _ h (Hle.refl h) ?_).run w s)
    rw [List.append_nil]
    exact hr0
  · have hold : (Builtin.firstCells i.size l.length (.slice a l.length l.length)).run P w.drew = .ok (fl enc l).toArray w.drew := by
      obtain ⟨g1, a', cap', g2, g3, g4⟩ := hr0
      cases g2
      rcases g4 with g4 | ⟨b, o, rfl, hp⟩
      · have hl : l = [] := List.eq_nil_of_length_eq_zero g4
        subst hl
        cases a <;> simp [Builtin.firstCells, fl, loadCells, loadCellsFrom, pure]
      · refine run_firstCells_some w.drew i.size l.length ⟨b, o, none⟩ l.length l.length (fl enc l) (by rw [u3]; exact g1) ?_
        intro j u hj
        rw [add_addr]
        exact hcell_cell (w := w.drew) s.frozen (hp j u hj)
    have hg := run_append_grow_src (P := P) w t tx ty e i zv u1 u2 q2 a l.length l.length (fl enc l) hold x n (fl enc m) hsr (by omega) (by omega) (by
      refine growslice_fits (by omega) ?_
      rw [u4, ← hn]
      exact hb)
    have s2 := s.drew.alloc (.cells ((fl enc l ++ fl enc m).toArray ++ Builtin.zeroCells zv.cells (grownCap w (l.length + n) l.length e - (l.length + n))) e)
      (.sl (.slice (some ⟨w.heap.size, 0, none⟩) (l.length + n) (grownCap w (l.length + n) l.length e)) e sz (fl enc (l ++ m))) (fun hp' hb' => .inr ⟨w.drew.heap.size, 0, _, _, [], (Builtin.zeroCells zv.cells (grownCap w (l.length + n) l.length e - (l.length + n))).toList, rfl, by rw [hb', fl_append]; simp, rfl, by rw [fl_len, List.length_append, hn], grownCap_ge w _ _ _, by
        have := grownCap_ge w (l.length + n) l.length e
        have hz2 : ∀ k, (Builtin.zeroCells zv.cells k).toList.length = k * sz := fun k => by
          rw [Array.length_toList, zeroCells_len, q3, List.size_toArray, hzz]
        rw [hz2, ← Nat.add_mul]
        refine Nat.le_of_eq ?_
        congr 1
        omega⟩) rfl
    refine Do.of (run_vB' rfl hg) ?_
    exact (Gs.freezeE (enc := enc) (l := l ++ m) (v := .slice (some ⟨w.heap.size, 0, none⟩) (l.length + n) (grownCap w (l.length + n) l.length e)) (e := e) u5 (fun h' hle hr' => hk _ h' hle hr')).run _ s2⟩
/-- A library function that makes one new block. -/
theorem Ct.alloc {f : FuncId} {args : List Value} {post : Hp → Value → Prop} (hc : ∀ w, Hle h (World.hp w) → Calls P f args.toArray w fun e w' => ∃ v o, e = .returned v ∧ w' = w.alloc o ∧ ∀ h' : Hp, h' w.heap.size = some o → post h' v) : Ct P f args h post := fun w hh =>
  Calls.mono (hc w hh) fun e w' he => by
    obtain ⟨v, o, he, hw, hp⟩ := he
    subst he hw
    have hlt : ∀ k o', h k = some o' → k < w.heap.size := fun k o' e => Hle.lt hh e
    refine ⟨Below.alloc_self w o, ⟨fun k => if k = w.heap.size then some o else h k, fun k o' e => ?_, fun k hk => ?_, fun k o' e => ?_, hp _ (by simp)⟩, fun _ => Nat.le_refl _⟩
    · have := hlt k o' e
      show (if k = w.heap.size then some o else h k) = _
      rw [if_neg (by omega)]
      exact e
    · show (if k = w.heap.size then some o else h k) = _
      rw [if_neg (by omega)]
    · have e : (if k = w.heap.size then some o else h k) = some o' := e
      split at e
      · rename_i hk
        rw [hk, hp_alloc_new]
        exact e
      · rw [hp_alloc_old w o k (hlt k o' e)]
        exact hh k o' e
theorem G.sfromto {k k' : IntKind} {s : List UInt8} {i j : Int} [ht : TStr P t] (hi : 0 ≤ i ∧ i ≤ j ∧ j ≤ s.length) (hk : G S (K (Str ((s.take j.toNat).drop i.toNat)))) : G S (Do P (V (Instr.sliceAt t (Str s) (some (.int k i)) (some (.int k' j)) none)) K) :=
  haveI : Yd P S (V (Instr.sliceAt t (Str s) (some (.int k i)) (some (.int k' j)) none)) (Str ((s.take j.toNat).drop i.toNat)) := Yd.of fun w => by
    rw [run_sliceAt ht.spec]
    have hsz : (⟨s.toArray⟩ : ByteArray).size = s.length := by simp [ByteArray.size]
    have e1 : (Instr.sliceBounds false (⟨s.toArray⟩ : ByteArray).size (⟨s.toArray⟩ : ByteArray).size (some (.int k i)) (some (.int k' j)) none).run P w = .ok (i.toNat, j.toNat, s.length) w := by
      unfold Instr.sliceBounds
      have b1 := run_sliceBound (P := P) w k' j s.length .sliceAlen (by omega) (by omega)
      have b2 := run_sliceBound (P := P) w k i j.toNat .sliceB (by omega) (by omega)
      simp only [Sem.run_bind, run_pure, Result.andThen_ok, Bool.false_eq_true, if_false, Option.isSome_none, hsz, b1, b2]
    unfold Instr.slice
    simp only [Sem.run_bind, runU ht.spec, Result.andThen_ok, Option.isSome_none, Bool.false_eq_true, if_false]
    have e2 : (Instr.sliceBounds false (⟨s.toArray⟩ : ByteArray).size (⟨s.toArray⟩ : ByteArray).size (some (.int k i)) (some (.int k' j)) none).run P w = .ok (i.toNat, j.toNat, s.length) w := e1
    rw [e2]
    simp only [Result.andThen_ok, run_pure]
    congr 2
    apply ByteArray.ext
    simp [List.drop_take]
  G.step hk

/-! ### The library puts a row of ints anew -/
theorem putRow_block {w : World} {b off : Nat} {pre xs post : List Value} {e : TypeId} {zs : List Int} (hb : w.heap[b]? = some (.cells (pre ++ xs ++ post).toArray e (0, 0))) (hpre : pre.length = off) (hx : xs.length = zs.length) :
    (Sort.putRow (Value.int .i64) w b off zs.toArray).heap[b]? = some (.cells (pre ++ zs.map I ++ post).toArray e (0, 0)) := by
  unfold Sort.putRow Sort.mapBlock
  simp only [Array.getElem?_modify, if_true, hb, Option.map_some, Sort.onCells]
  congr 2
  apply Array.ext_getElem?
  intro j
  unfold Sort.putCells
  rw [Array.getElem?_mapIdx]
  simp only [List.getElem?_toArray, List.size_toArray]
  rw [List.append_assoc, List.append_assoc]
  by_cases h1 : j < off
  · have eL : (pre ++ (xs ++ post))[j]? = pre[j]? := List.getElem?_append_left (by omega)
    have eR : (pre ++ (zs.map I ++ post))[j]? = pre[j]? := List.getElem?_append_left (by omega)
    rw [eL, eR]
    cases hj : pre[j]? with
    | none => rfl
    | some u => simp; omega
  · have eL : (pre ++ (xs ++ post))[j]? = (xs ++ post)[j - off]? := by rw [← hpre]; exact List.getElem?_append_right (by omega)
    have eR : (pre ++ (zs.map I ++ post))[j]? = (zs.map I ++ post)[j - off]? := by rw [← hpre]; exact List.getElem?_append_right (by omega)
    rw [eL, eR]
    by_cases h2 : j - off < zs.length
    · have fL : (xs ++ post)[j - off]? = xs[j - off]? := List.getElem?_append_left (by omega)
      have fR : (zs.map I ++ post)[j - off]? = (zs.map I)[j - off]? := List.getElem?_append_left (by simpa using h2)
      rw [fL, fR, List.getElem?_eq_getElem (show j - off < xs.length by omega)]
      simp only [Option.map_some, List.getElem?_map, List.getElem?_eq_getElem h2]
      rw [if_pos (by omega)]
      simp [h2]
    · have fL : (xs ++ post)[j - off]? = post[j - off - zs.length]? := by rw [← hx]; exact List.getElem?_append_right (by omega)
      have fR : (zs.map I ++ post)[j - off]? = post[j - off - zs.length]? := by
        have := List.getElem?_append_right (l₁ := zs.map I) (l₂ := post) (i := j - off) (by simp; omega)
        rwa [List.length_map] at this
      rw [fL, fR]
      cases hj : post[j - off - zs.length]? with
      | none => rfl
      | some u => simp; omega
theorem putRow_other {w : World} {b off k : Nat} {d : Array Int} (hk : k ≠ b) : (Sort.putRow (Value.int .i64) w b off d).heap[k]? = w.heap[k]? := by
  unfold Sort.putRow Sort.mapBlock
  simp [Array.getElem?_modify, Ne.symm hk]
theorem holds_of {w : World} {b off : Nat} {pre post : List Value} {e : TypeId} {zs : List Int} (hb : w.heap[b]? = some (.cells (pre ++ zs.map I ++ post).toArray e (0, 0))) (hpre : pre.length = off) : Sort.Holds (Value.int .i64) w b off zs.toArray := by
  intro j hj
  have hj : j < zs.length := by simpa using hj
  refine ⟨?_, by simp [World.frozen?, hb]⟩
  rw [cell_of hb, List.append_assoc, List.getElem?_append_right (by omega), List.getElem?_append_left (by simp; omega)]
  have : off + j - pre.length = j := by omega
  rw [this]
  simp [hj]
theorem fl_encI (zs : List Int) : fl eInt zs = zs.map I := by
  induction zs with
  | nil => rfl
  | cons a l ih => rw [fl_cons, ih]; rfl
theorem St.ahead {w : World} (s : St w0 h0 h L w) (n : Nat) : St w0 h0 h L (Sort.ahead w n) := ⟨⟨s.below.os, s.below.tape, s.below.output, s.below.size, s.below.block⟩, s.up, s.old, s.frozen, s.items, s.apart, fun d => Nat.le_trans (s.drawn d) (Nat.le_add_right _ _)⟩
theorem St.growN {w : World} (s : St w0 h0 h L w) (os : Array Obj) : St w0 h0 h L (Sort.grow w os) := by
  have hb : Below w.heap.size w (Sort.grow w os) := by
    refine ⟨rfl, rfl, rfl, ?_, fun b hb => ?_⟩
    · show w.heap.size ≤ (w.heap ++ os).size
      simp
    · show (w.heap ++ os)[b]? = _
      rw [Array.getElem?_append_left hb]
  refine s.grow hb (Hle.refl h) (fun _ _ => rfl) (fun k o e => ?_) (fun _ => Nat.le_refl _)
  have hk := Hle.lt s.frozen e
  show (Sort.grow w os).heap[k]? = _
  rw [hb.block k hk]
  exact s.frozen k o e
/-- Sort, in place. -/
theorem Gs.sortI {f : FuncId} [IsGo P f] {zs ws : List Int} (hws : ws.length = zs.length) [htk : TakeS L v e 1 (fl eInt zs) R] (hsz : zs.length < 4611686018427387904) (hnil : ∀ (p : Option Addr) (cap : Nat) w, Calls P f #[.slice p 0 cap] w fun e w' => e = .returned (.tuple #[]) ∧ w' = w)
    (hcall : ∀ (blk off cap : Nat) w, Sort.Holds (Value.int .i64) w blk off zs.toArray → blk < w.heap.size → Calls P f #[.slice (some ⟨blk, off, none⟩) zs.length cap] w fun e w' => e = .returned (.tuple #[]) ∧ ∃ n os, w' = Sort.grow (Sort.putRow (Value.int .i64) (Sort.ahead w n) blk off ws.toArray) os)
    (hk : Gs w0 h0 h (.sl v e 1 (fl eInt ws) :: R) (K (.tuple #[]))) : Gs w0 h0 h L (Do P (vCall (.func (.func f) #[] ⟨[]⟩) [v]) K) := Gs.perm htk.perm ⟨fun w s => Do.of (run_vCall _ _ _) (by
  have hok := s.head_sl
  rw [List.append_nil]
  rcases hok with ⟨rfl, hx⟩ | ⟨b, off, n, cap, pre, post, rfl, hb, g2, g3, g4, g5⟩
  · have hz : zs = [] := by
      rw [fl_encI] at hx
      simpa using hx
    subst hz
    have hw : ws = [] := List.eq_nil_of_length_eq_zero hws
    subst hw
    refine Calls.mono (hnil none 0 w) fun e w' he => ?_
    obtain ⟨rfl, rfl⟩ := he
    exact hk.run _ s
  · have hn : n = zs.length := by rw [fl_len] at g3; omega
    subst hn
    have hb' : w.heap[b]? = some (.cells (pre ++ zs.map I ++ post).toArray e (0, 0)) := by rw [← fl_encI]; exact hb
    refine Calls.mono (hcall b off cap w (holds_of hb' g2) (s.lt (it := .sl (.slice (some ⟨b, off, none⟩) zs.length cap) e 1 (fl eInt zs)) (by simp) rfl)) fun e' w' he => ?_
    obtain ⟨rfl, q, os, rfl⟩ := he
    refine hk.run _ (St.growN ?_ os)
    refine (s.ahead q).write (it' := .sl _ e 1 _) (b := b) rfl rfl rfl rfl rfl (Sort.size_putRow _ _ _ _ _) (fun k hk => putRow_other hk) (.inr ⟨b, off, zs.length, cap, pre, post, rfl, ?_, g2, by rw [fl_len, hws], g4, g5⟩)
    show (Sort.putRow (Value.int .i64) (Sort.ahead w q) b off ws.toArray).heap[b]? = _
    rw [putRow_block (w := Sort.ahead w q) (xs := zs.map I) hb' g2 (by simp [hws]), fl_encI])⟩
/-- Compact, in place: what comes back is the front. -/
theorem Gs.compactI {f : FuncId} [IsGo P f] {zs ws : List Int} {rest : List Int} (hws : ws.length + rest.length = zs.length) [htk : TakeS L v e 1 (fl eInt zs) R] (hsz : zs.length ≤ 9223372036854775807) (hnil : ∀ (p : Option Addr) (cap : Nat) w, Calls P f #[.slice p 0 cap] w fun e w' => e = .returned (.slice p 0 cap) ∧ w' = w)
    (hcall : ∀ (blk off cap : Nat) w, Sort.Holds (Value.int .i64) w blk off zs.toArray → zs.length ≤ cap → Calls P f #[.slice (some ⟨blk, off, none⟩) zs.length cap] w fun e w' => e = .returned (.slice (some ⟨blk, off, none⟩) ws.length cap) ∧ ∃ n, w' = Sort.putRow (Value.int .i64) (Sort.ahead w n) blk off (ws ++ rest).toArray)
    (hk : ∀ v', Gs w0 h0 h (.sl v' e 1 (fl eInt ws) :: R) (K v')) : Gs w0 h0 h L (Do P (vCall (.func (.func f) #[] ⟨[]⟩) [v]) K) := Gs.perm htk.perm ⟨fun w s => Do.of (run_vCall _ _ _) (by
  have hok := s.head_sl
  rw [List.append_nil]
  rcases hok with ⟨rfl, hx⟩ | ⟨b, off, n, cap, pre, post, rfl, hb, g2, g3, g4, g5⟩
  · have hz : zs = [] := by
      rw [fl_encI] at hx
      simpa using hx
    subst hz
    have hw : ws = [] := List.eq_nil_of_length_eq_zero (by have h : ws.length + rest.length = 0 := hws; omega)
    subst hw
    refine Calls.mono (hnil none 0 w) fun e w' he => ?_
    obtain ⟨rfl, rfl⟩ := he
    exact (hk _).run _ s
  · have hn : n = zs.length := by rw [fl_len] at g3; omega
    subst hn
    have hb' : w.heap[b]? = some (.cells (pre ++ zs.map I ++ post).toArray e (0, 0)) := by rw [← fl_encI]; exact hb
    refine Calls.mono (hcall b off cap w (holds_of hb' g2) g4) fun e' w' he => ?_
    obtain ⟨rfl, q, rfl⟩ := he
    refine (hk _).run _ ?_
    refine (s.ahead q).write (it' := .sl _ e 1 _) (b := b) rfl rfl rfl rfl rfl (Sort.size_putRow _ _ _ _ _) (fun k hk => putRow_other hk) (.inr ⟨b, off, ws.length, cap, pre, rest.map I ++ post, rfl, ?_, g2, by rw [fl_len], by omega, by simp; omega⟩)
    show (Sort.putRow (Value.int .i64) (Sort.ahead w q) b off (ws ++ rest).toArray).heap[b]? = _
    rw [putRow_block (w := Sort.ahead w q) (xs := zs.map I) hb' g2 (by simp; omega), fl_encI]
    simp [List.append_assoc])⟩
end
end Go.Sk
namespace Go.Sk
open Go Go.RowKit
instance (priority := 20) Sel.refl {L : List Itm} : Sel L L := ⟨[], by simp⟩
instance (priority := 10) Sel.skip {x : Itm} {L L' : List Itm} [h : Sel L L'] : Sel (x :: L) L' := by
  obtain ⟨R, hR⟩ := h.ok
  exact ⟨x :: R, (hR.cons x).trans List.perm_middle.symm⟩
theorem TArr.spec' {P : Program} {t n e sz : Nat} (h : TArr P t n e sz) : ∃ i, P.underlying t = some (.array n e) ∧ P.info? e = some i ∧ i.size = sz := by
  have h := h.ok
  unfold arrB at h
  cases hu : P.underlying t with
  | none => rw [hu] at h; cases h
  | some d =>
    rw [hu] at h
    cases d <;> try (cases h; done)
    rename_i n' e'
    cases hi : P.info? e with
    | none => rw [hi] at h; cases h
    | some i =>
      rw [hi] at h
      simp only [Bool.and_eq_true] at h
      obtain ⟨⟨h1, h2⟩, h3⟩ := h
      have h1 := Nat.eq_of_beq_eq_true h1
      have h2 := Nat.eq_of_beq_eq_true h2
      subst h1 h2
      exact ⟨i, rfl, rfl, Nat.eq_of_beq_eq_true h3⟩
/-- The address of an array's element, by a number that is known. -/
theorem Yd.ixA {P : Program} {S : WP} {t n e sz b o c : Nat} {k : IntKind} {i : Int} [ht : TArr P t n e sz] (hi : 0 ≤ i ∧ i < n) (hc : o + i.toNat * sz = c) : Yd P S (V (Instr.indexAt t (ptr b o) (.int k i))) (ptr b c) := Yd.of fun w => by
  obtain ⟨inf, h1, h2, h3⟩ := ht.spec'
  subst hc
  unfold Instr.indexAt
  show Sem.run P (Sem.bind (asIntOf (.int k i)) _) w = _
  simp only [asIntOf]
  show Sem.run P (Sem.bind (Sem.pure _) _) w = _
  simp only [Sem.bind]
  rw [Sem.run_bind, runU h1]
  simp only [Result.andThen_ok, Instr.sureAddr, Sem.run_bind, run_pure, runU h1, run_sizeOf h2, h3, if_pos hi]
  rw [add_addr]
end Go.Sk
namespace Go.Sk
open Go Go.RowKit
/-- What has grown frozen may be forgotten. -/
theorem Gs.weak0 {w0 : World} {h h' : Hp} {L : List Itm} {X : WP} (hle : Hle h h') (hk : Gs w0 h h L X) : Gs w0 h h' L X := ⟨fun w s => hk.run w
  { below := s.below, up := Hle.refl h, old := fun _ _ => rfl, frozen := hle.trans s.frozen, apart := s.apart, drawn := s.drawn
    items := fun it hi => ⟨(s.items it hi).1, fun b hb => ⟨((s.items it hi).2 b hb).1, by
      have := ((s.items it hi).2 b hb).2
      cases hh : h b with
      | none => rfl
      | some o => rw [hle b o hh] at this; cases this⟩⟩ }⟩
end Go.Sk
end

