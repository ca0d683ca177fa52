/-
  Lemmas for the proof of the statement of this claim: a part of the road, no statement of its own. Conditions: those that each lemma names.
-/
import Derived.OrdersHeld
import Derived.Below
import Derived.KernelRfl
import Derived.Laws.Sem
import Derived.Laws.ResultCell
import Derived.Scope
import Derived.Laws.World
import Derived.IntWalk
section
/-
  The evaluator: a structured weakest precondition over the code of a Go function, with frames as functions of the slot, and its soundness.
-/
namespace Go.Sk
open Go

abbrev Fr := Nat → Value
abbrev WP := World → Prop

def opv (fr : Fr) : Operand → Value
  | .tmp t => fr t
  | .const v => v
  | .global g => .pointer (some ⟨g, 0, none⟩)
  | .func f => .func (.func f) #[] #[]

def put (fr : Fr) (d : Option Nat) (v : Value) : Fr :=
  match d with
  | none => fr
  | some d => fun i => bif Nat.beq i d then v else fr i

/-- What is asked of the outcome of one operation. -/
def Upon (P : Program) (next : Value → WP) : Result Next → Prop
  | .ok (.value v) w' => next v w'
  | .ok .skip w' => next undef w'
  | .ok (.enter f args) w' => Calls P f args w' fun e w'' => match e with
    | .returned v => next v w''
    | _ => False
  | .ok (.row row args) w' => Rows P row args w' next
  | _ => False

structure Do (P : Program) (s : Sem Next) (K : Value → WP) (w : World) : Prop where
  out : Upon P K (s.run P w)
def ifOf (v : Value) (X Y : Prop) : Prop := match v with
  | .bool true => X
  | .bool false => Y
  | _ => False
structure If (v : Value) (X Y : WP) (w : World) : Prop where
  out : ifOf v (X w) (Y w)
def gdOf (v : Value) (b : Bool) (X Y : Prop) : Prop := match v with
  | .bool c => if c = b then X else Y
  | _ => False
structure Gd (v : Value) (b : Bool) (X Y : WP) (w : World) : Prop where
  out : gdOf v b (X w) (Y w)
structure Jn {α : Type} (K : α → WP) (f : (α → WP) → WP) (w : World) : Prop where
  out : f K w
structure Lp {α : Type} (B : (α → WP) → α → WP) (s : α) (w : World) : Prop where
  out : ∃ (I : α → WP) (μ : α → World → Nat), I s w ∧ ∀ s w, I s w → B (fun s' w' => I s' w' ∧ μ s' w' < μ s w) s w
structure Jk (f : Fr → WP) (w : World) : Prop where
  out : ∀ j, f j w
/-- A reading operation in a region whose order is open: it is taken first, in a class of worlds of the prover's choice. -/
structure Qk (P : Program) (s : Sem Next) (K : WP → Value → WP) (w : World) : Prop where
  out : ∃ C : WP, C w ∧ ∃ v, (∀ w, C w → s.run P w = .ok (.value v) w) ∧ K C v w
structure With (C : WP) (K : WP) (w : World) : Prop where
  here : C w
  out : K w
structure Or2 (X Y : WP) (w : World) : Prop where
  fst : X w
  snd : Y w
/-- Behind a draw of the tape. -/
structure Dr (X : WP) (w : World) : Prop where
  out : X w.drew

/-! ### Slots -/
def Tup : Nat → Type
  | 0 => Unit
  | 1 => Value
  | n + 2 => Value × Tup (n + 1)
def tup (fr : Fr) : (ss : List Nat) → Tup ss.length
  | [] => ()
  | [x] => fr x
  | x :: y :: r => (fr x, tup fr (y :: r))
def sel (dflt : Value) (i : Nat) : (ss : List Nat) → Tup ss.length → Value
  | [], _ => dflt
  | [x], t => bif Nat.beq i x then t else dflt
  | x :: y :: r, t => bif Nat.beq i x then t.1 else sel dflt i (y :: r) t.2
/-- Is slot i in the mask? -/
def inL (i : Nat) (m : Nat) : Bool := Nat.beq (Nat.land (Nat.shiftRight m i) 1) 1
def mk (ss : List Nat) (t : Tup ss.length) (kill : Nat) (fr junk : Fr) : Fr := fun i =>
  bif inL i kill then sel (junk i) i ss t else fr i

theorem beq_ne {i x : Nat} (h : i ≠ x) : Nat.beq i x = false := by
  cases hh : Nat.beq i x
  · rfl
  · exact absurd (Nat.eq_of_beq_eq_true hh) h

theorem sel_tup (fr : Fr) (i : Nat) : ∀ ss : List Nat, sel (fr i) i ss (tup fr ss) = fr i
  | [] => rfl
  | [x] => by
    unfold sel tup
    by_cases h : i = x
    · subst h; simp
    · rw [beq_ne h]; rfl
  | x :: y :: r => by
    unfold sel tup
    by_cases h : i = x
    · subst h; simp
    · rw [beq_ne h]; simp only [cond_false]; exact sel_tup fr i (y :: r)

theorem mk_self (ss : List Nat) (kill : Nat) (fr fr' : Fr) (h : ∀ i, inL i kill = false → fr' i = fr i) : mk ss (tup fr' ss) kill fr fr' = fr' := by
  funext i
  unfold mk
  cases hk : inL i kill
  · simp [h i hk]
  · simp only [cond_true]; exact sel_tup fr' i ss

/-! ### Plans for the regions that draw their order -/
inductive Plan where
  | done
  | q (i : Nat) (p : Plan)
  | l (i : Nat) (p : Plan)
  | or (p r : Plan)

inductive Ann where
  | n
  | plan (inf : List (Nat × Nat × Nat)) (p : Plan)
  | s (a b : Ann)
  | j (ss : List Nat) (kill : Nat) (a b : Ann)
  | lp (ss : List Nat) (kill : Nat) (a : Ann)

/-- Does operation d hang on operation i (through the edges that bind)? -/
def anc (ops : Array Oper) : Nat → Nat → Nat → Bool
  | 0, _, _ => false
  | f + 1, d, i => match ops[d]? with
    | none => false
    | some o => o.after.toList.any fun e => Region.binds .any e && (Nat.beq e.on i || anc ops f e.on i)

def listedA (ops : Array Oper) (ls : List Nat) : Array Bool := ls.foldr (fun i a => a.setIfInBounds i true) (Array.replicate ops.size false)

def dstOf (ops : Array Oper) (j : Nat) : Option Nat := (ops[j]?).bind (·.dst)

/-- The value that a guard looks at. -/
def guardV (ops : Array Oper) (fr : Fr) (j : Nat) : Value := match dstOf ops j with
  | some d => fr d
  | none => undef

def withs (ops : Array Oper) (i : Nat) : List (Nat × WP) → WP → WP
  | [], K => K
  | (q, C) :: r, K => bif anc ops ops.size i q then withs ops i r K else With C (withs ops i r K)

def V (s : Sem Value) : Sem Next := do pure (.value (← s))
def U (s : Sem Unit) : Sem Next := do s; pure .skip
def EqG (op : BinOp) (t : TypeId) (x y : Operand) (a b : Value) : Sem Value := do eqGuard op t x y a b; binOp op t a b
def vCall (f : Value) (args : List Value) : Sem Next := do let d ← Deferred.ofValue f ⟨args⟩; invoke d.target d.args
def vBuiltin (b : Builtin) (argTypes : Array TypeId) (type : TypeId) (args : List Value) : Sem Next := builtin b argTypes type #[] ⟨args⟩
def vBuild (t : TypeId) (parts : List (Nat × Value)) : Sem Next := V (Instr.build t ⟨parts⟩)
def vBuildSlice (t : TypeId) (n : Nat) (parts : List (Nat × Value)) : Sem Next := V (Instr.buildSlice t n ⟨parts⟩)
def vNil (x : Value) : Sem Next := execOp (fun _ => x) ⟨none, .nilCheck (.tmp 0), 0, "", #[], none⟩
def partsOf (fr : Fr) : List (Nat × Operand) → List (Nat × Value)
  | [] => []
  | p :: r => (p.1, opv fr p.2) :: partsOf fr r
def argsOf (fr : Fr) : List Operand → List Value
  | [] => []
  | x :: r => opv fr x :: argsOf fr r
def quietB : Builtin → Bool
  | .print | .println => false
  | _ => true

def optV (fr : Fr) : Option Operand → Option Value
  | none => none
  | some x => some (opv fr x)

/-- An operation in its frame, lists in place of arrays. -/
def semOf (fr : Fr) (o : Oper) : Sem Next :=
  match o.op with
  | .build t parts => vBuild t (partsOf fr parts.toList)
  | .buildSlice t n parts => vBuildSlice t n (partsOf fr parts.toList)
  | .call ⟨.value f, args, _⟩ => vCall (opv fr f) (argsOf fr args.toList)
  | .call ⟨.builtin b, args, argTypes⟩ => match quietB b with
    | true => vBuiltin b argTypes o.type (argsOf fr args.toList)
    | false => execOp (opv fr) o
  | .binOp .eql t x y _ => V (EqG .eql t x y (opv fr x) (opv fr y))
  | .binOp .neq t x y _ => V (EqG .neq t x y (opv fr x) (opv fr y))
  | .binOp op t x y _ => V (binOp op t (opv fr x) (opv fr y))
  | .unOp op _ x => V (Op.unary op (opv fr x))
  | .convert src dst x => V (convert src dst (opv fr x))
  | .alloc e => V (Instr.alloc e true (.tuple #[]))
  | .box e x => V (Instr.box e (opv fr x))
  | .load t x => V (Instr.loadAt t (opv fr x))
  | .store t x y => U (Instr.storeAt t (opv fr x) (opv fr y))
  | .makeMap t r => V (Instr.makeMap t (optV fr r))
  | .makeSlice t x y => V (Instr.makeSlice t (opv fr x) (opv fr y))
  | .slice t x lo hi mx => V (Instr.sliceAt t (opv fr x) (optV fr lo) (optV fr hi) (optV fr mx))
  | .fieldAddr t x f => V (Instr.fieldAt t (opv fr x) f)
  | .field t x f => V (Instr.field t (opv fr x) f)
  | .indexAddr t x y => V (Instr.indexAt t (opv fr x) (opv fr y))
  | .index t x y => V (Instr.index t (opv fr x) (opv fr y))
  | .lookup t x y ok => V (Instr.lookup t (opv fr x) (opv fr y) ok)
  | .mapUpdate t m k x => U (Instr.mapUpdate t (opv fr m) (opv fr k) (opv fr x))
  | .insert t m k x => U (Instr.mapUpdate t (opv fr m) (opv fr k) (opv fr x))
  | .mapEntry t m k => V (Instr.mapEntry t (opv fr m) (opv fr k))
  | .entryStore t m s x => U (Instr.entryStore t (opv fr m) (opv fr s) (opv fr x))
  | .range t x => V (Instr.range t (opv fr x))
  | .next it s => V (Instr.next (opv fr it) s o.type)
  | .entry it => V (Instr.entry (opv fr it))
  | .makeInterface t x => V (Instr.makeInterface t (opv fr x))
  | .extract t i => V (Instr.extract (opv fr t) i)
  | .panic x => V (Instr.panic (opv fr x))
  | .nilCheck x => vNil (opv fr x)
  | .typeAssert x t a ok => V (Instr.typeAssert (opv fr x) t a ok)
  | _ => execOp (opv fr) o

theorem partsOf_eq (fr : Fr) : ∀ l : List (Nat × Operand), partsOf fr l = l.map fun p => (p.1, opv fr p.2)
  | [] => rfl
  | _ :: r => by simp [partsOf, partsOf_eq fr r]
theorem argsOf_eq (fr : Fr) : ∀ l : List Operand, argsOf fr l = l.map (opv fr)
  | [] => rfl
  | _ :: r => by simp [argsOf, argsOf_eq fr r]
theorem map_eq {α β : Type} (f : α → β) (a : Array α) : a.map f = ⟨a.toList.map f⟩ := by
  apply Array.ext'
  simp

theorem builtin_eq {b : Builtin} (h : quietB b = true) (ts : Array TypeId) (t : TypeId) (cs : Array Bool) (args : Array Value) : builtin b ts t cs args = builtin b ts t #[] args := by
  cases b <;> first | rfl | cases h

theorem optV_eq (fr : Fr) (x : Option Operand) : optV fr x = x.map (opv fr) := by cases x <;> rfl

theorem V_guard (op : BinOp) (t : TypeId) (x y : Operand) (a b : Value) (h : (!(op matches .eql | .neq)) = true) : (do eqGuard op t x y a b; binOp op t a b : Sem Value) = binOp op t a b := by
  cases op <;> first | rfl | cases h

theorem semOf_eq (fr : Fr) (o : Oper) : semOf fr o = execOp (opv fr) o := by
  obtain ⟨dst, op, ty, pos, after, guard⟩ := o
  cases op <;> try rfl
  case build t parts => simp only [semOf, execOp, vBuild, partsOf_eq, map_eq]; rfl
  case buildSlice t n parts => simp only [semOf, execOp, vBuildSlice, partsOf_eq, map_eq]; rfl
  case makeMap t r => simp only [semOf, execOp, optV_eq]; rfl
  case slice t x lo hi mx => simp only [semOf, execOp, optV_eq]; rfl
  case binOp op t x y u => cases op <;> rfl
  case call c =>
    obtain ⟨callee, args, ats⟩ := c
    cases callee with
    | value f => simp only [semOf, execOp, vCall, resolve, argsOf_eq, map_eq]
    | invoke r m => rfl
    | builtin b =>
      cases hb : quietB b
      · simp only [semOf, hb]
      · simp only [semOf, hb, execOp, resolve, vBuiltin, argsOf_eq]
        show _ = invoke (.builtin b ats ty _) _
        unfold invoke
        exact ((builtin_eq hb ats ty _ _).trans (by dsimp only; rw [map_eq])).symm

/-- One operation of which only the value counts: moves are reckoned at once. -/
def quickOf (fr : Fr) : Op → Option Value
  | .makeFunc fn first captured => some (.func fn ⟨argsOf fr first.toList⟩ ⟨argsOf fr captured.toList⟩)
  | _ => none

/-- Slots of which it is known, inside a region, what truth value they hold, or that they hold none. -/
abbrev Dec := List (Nat × Option Bool)
def decOf (dec : Dec) (i : Nat) : Option (Option Bool) := match dec with
  | [] => none
  | (s, b) :: r => bif Nat.beq s i then some b else decOf r i
def Dec.drop (dec : Dec) (d : Option Nat) : Dec := match d with
  | none => dec
  | some d => match dec with
    | [] => []
    | (s, b) :: r => bif Nat.beq s d then Dec.drop r (some d) else (s, b) :: Dec.drop r (some d)

def knownOp (dec : Dec) : Operand → Option (Option Bool)
  | .tmp t => decOf dec t
  | .const (.bool b) => some (some b)
  | _ => none

/-- An operation that hands on an operand: a move, or a choice whose condition is known. -/
def fastSrc (dec : Dec) : Op → Option Operand
  | .move x => some x
  | .assign x => some x
  | .pick (.tmp c) a b => match decOf dec c with
    | some (some true) => some a
    | some (some false) => some b
    | _ => none
  | _ => none

def decPut (dec : Dec) (d : Option Nat) (k : Option (Option Bool)) : Dec := match d with
  | none => dec
  | some d => match k with
    | some b => (d, b) :: Dec.drop dec (some d)
    | none => Dec.drop dec (some d)

def stepOp (P : Program) (dec : Dec) (fr : Fr) (o : Oper) (K : Dec → Fr → WP) : WP :=
  match fastSrc dec o.op with
  | some x => K (decPut dec o.dst (knownOp dec x)) (put fr o.dst (opv fr x))
  | none => match quickOf fr o.op with
    | some v => K (decPut dec o.dst none) (put fr o.dst v)
    | none => Do P (semOf fr o) fun v => K (decPut dec o.dst none) (put fr o.dst v)

def stepQ (P : Program) (dec : Dec) (fr : Fr) (o : Oper) (Cs : List (Nat × WP)) (i : Nat) (K : List (Nat × WP) → Dec → Fr → WP) : WP :=
  match fastSrc dec o.op with
  | some x => K Cs (decPut dec o.dst (knownOp dec x)) (put fr o.dst (opv fr x))
  | none => match quickOf fr o.op with
    | some v => K Cs (decPut dec o.dst none) (put fr o.dst v)
    | none => Qk P (semOf fr o) fun C v => K ((i, C) :: Cs) (decPut dec o.dst none) (put fr o.dst v)

/-- The ways of a guarded operation; what the guard is, is known behind it. -/
def guardK (ops : Array Oper) (dec : Dec) (fr : Fr) (j : Nat) (b : Bool) (X Y : Dec → Fr → WP) : WP :=
  match dstOf ops j with
  | none => fun _ => False
  | some d => match decOf dec d with
    | some (some c) => bif c == b then X dec fr else Y dec fr
    | some none => Y dec fr
    | none => Gd (fr d) b (X ((d, some b) :: dec) (put fr (some d) (.bool b))) (Y ((d, some (!b)) :: dec) (put fr (some d) (.bool (!b))))

def Eops (P : Program) (ops : Array Oper) (K : Fr → WP) : List Oper → Dec → Fr → WP
  | [], _, fr => K fr
  | o :: rest, dec, fr =>
    match o.guard with
    | none => stepOp P dec fr o (Eops P ops K rest)
    | some (j, b) => guardK ops dec fr j b (fun dec fr => stepOp P dec fr o (Eops P ops K rest)) (fun dec fr => Eops P ops K rest (decPut dec o.dst (some none)) (put fr o.dst undef))

def Edrw (P : Program) (ops : Array Oper) (K : Fr → WP) : Plan → List (Nat × WP) → Dec → Fr → WP
  | .done, _, _, fr => K fr
  | .q i p, Cs, dec, fr =>
    match ops[i]? with
    | none => fun _ => False
    | some o =>
      match o.guard with
      | none => stepQ P dec fr o Cs i (Edrw P ops K p)
      | some (j, b) => guardK ops dec fr j b (fun dec fr => stepQ P dec fr o Cs i (Edrw P ops K p)) (fun dec fr => Edrw P ops K p Cs (decPut dec o.dst (some none)) (put fr o.dst undef))
  | .l i p, Cs, dec, fr =>
    match ops[i]? with
    | none => fun _ => False
    | some o =>
      match o.guard with
      | none => stepOp P dec fr o fun dec fr => withs ops i Cs (Edrw P ops K p Cs dec fr)
      | some (j, b) => guardK ops dec fr j b (fun dec fr => stepOp P dec fr o fun dec fr => withs ops i Cs (Edrw P ops K p Cs dec fr)) (fun dec fr => Edrw P ops K p Cs (decPut dec o.dst (some none)) (put fr o.dst undef))
  | .or p r, Cs, dec, fr => Or2 (Edrw P ops K p Cs dec fr) (Edrw P ops K r Cs dec fr)

/-- The heads of the alternatives: the loud operations that are tried now. -/
def Plan.heads : Plan → List Nat
  | .l i _ => [i]
  | .or p r => p.heads ++ r.heads
  | _ => []

def Plan.isAlt : Plan → Bool
  | .l _ _ => true
  | .or p r => p.isAlt && r.isAlt
  | _ => false

/-- The plan keeps to what the edges allow, and leaves out no order. 'top': all that may come up now is among the heads. -/
def Plan.okP (ops : Array Oper) (top : Bool) : Plan → List Nat → Prop
  | .done, ls => Region.ready .any ops (listedA ops ls) = []
  | .q i p, ls => ls.length < ops.size ∧ i ∈ Region.ready .any ops (listedA ops ls) ∧
    (∀ oi, ops[i]? = some oi → ∀ j oj, ops[j]? = some oj → j ≠ i → (listedA ops ls).getD j true = false → (∀ e ∈ oj.after, Region.binds .any e = true → e.on ≠ i) → oi.apart ops oj = true) ∧ Plan.okP ops true p (i :: ls)
  | .l i p, ls => ls.length < ops.size ∧ (top = true → i ∈ Region.ready .any ops (listedA ops ls) ∧ ∀ j ∈ Region.ready .any ops (listedA ops ls), j = i) ∧ Plan.okP ops true p (i :: ls)
  | .or p r, ls => ls.length < ops.size ∧ (top = true → Region.ready .any ops (listedA ops ls) ≠ [] ∧ ∀ j ∈ Region.ready .any ops (listedA ops ls), j ∈ (Plan.or p r).heads) ∧ Plan.okP ops false p ls ∧ Plan.okP ops false r ls

def bit (m i : Nat) : Bool := Nat.beq (Nat.land (Nat.shiftRight m i) 1) 1
def one (i : Nat) : Nat := Nat.shiftLeft 1 i
def depM : List Edge → Nat
  | [] => 0
  | e :: r => bif Region.binds .any e then Nat.lor (one e.on) (depM r) else depM r
def lookM : List Nat → Nat
  | [] => 0
  | t :: r => Nat.lor (one t) (lookM r)
def dstM : Option Nat → Nat
  | none => 0
  | some d => one d
def infOf (ops : Array Oper) (o : Oper) : Nat × Nat × Nat := (depM o.after.toList, lookM (o.looksAt ops), dstM o.dst)
def infOk (ops : Array Oper) : List Oper → List (Nat × Nat × Nat) → Bool
  | [], [] => true
  | o :: r, x :: s => Nat.beq (depM o.after.toList) x.1 && (Nat.beq (lookM (o.looksAt ops)) x.2.1 && (Nat.beq (dstM o.dst) x.2.2 && infOk ops r s))
  | _, _ => false
/-- Which may come up, by masks. -/
def readyM (m : Nat) : Nat → List (Nat × Nat × Nat) → List Nat
  | _, [] => []
  | j, x :: r => bif bit m j then readyM m (j + 1) r else bif Nat.beq (Nat.land x.1 m) x.1 then j :: readyM m (j + 1) r else readyM m (j + 1) r
def freeM (i di li m : Nat) : Nat → List (Nat × Nat × Nat) → Bool
  | _, [] => true
  | j, x :: r => (bif Nat.beq j i then true else bif bit m j then true else bif bit x.1 i then true else
      Nat.beq (Nat.land di x.2.1) 0 && (Nat.beq (Nat.land di x.2.2) 0 && Nat.beq (Nat.land x.2.2 li) 0)) && freeM i di li m (j + 1) r
def memN (i : Nat) : List Nat → Bool
  | [] => false
  | x :: r => bif Nat.beq i x then true else memN i r
def allN (f : Nat → Bool) : List Nat → Bool
  | [] => true
  | x :: r => f x && allN f r
def nthI : List (Nat × Nat × Nat) → Nat → Nat × Nat × Nat
  | [], _ => (0, 0, 0)
  | x :: _, 0 => x
  | _ :: r, i + 1 => nthI r i
def Plan.okM (inf : List (Nat × Nat × Nat)) (n : Nat) (top : Bool) : Plan → Nat → Nat → Bool
  | .done, m, _ => (readyM m 0 inf).isEmpty
  | .q i p, m, k => Nat.blt k n && (memN i (readyM m 0 inf) && (freeM i (nthI inf i).2.2 (nthI inf i).2.1 m 0 inf && Plan.okM inf n true p (Nat.lor m (one i)) (k + 1)))
  | .l i p, m, k => Nat.blt k n && ((!top || (memN i (readyM m 0 inf) && allN (fun j => Nat.beq j i) (readyM m 0 inf))) && Plan.okM inf n true p (Nat.lor m (one i)) (k + 1))
  | .or p r, m, k => Nat.blt k n && ((!top || (!(readyM m 0 inf).isEmpty && allN (fun j => memN j (Plan.or p r).heads) (readyM m 0 inf))) && (Plan.okM inf n false p m k && Plan.okM inf n false r m k))

def thenK (f : Fr → WP) (K : Exit → Fr → WP) : Exit → Fr → WP
  | .normal, fr => f fr
  | e, fr => K e fr

def blockK (id : Nat) (K : Exit → Fr → WP) : Exit → Fr → WP
  | .exit id', fr => bif Nat.beq id' id then K .normal fr else K (.exit id') fr
  | e, fr => K e fr

def scopeK (K : Exit → Fr → WP) : Exit → Fr → WP
  | .goto _, _ => fun _ => False
  | e, fr => K e fr

def E (P : Program) : Code → Ann → (Exit → Fr → WP) → Fr → WP
  | .skip, _, K, fr => K .normal fr
  | .ret, _, K, fr => K .ret fr
  | .exit id, _, K, fr => K (.exit id) fr
  | .label _, _, K, fr => K .normal fr
  | .region _ ops false, _, K, fr => Eops P ops (fun fr => K .normal fr) ops.toList [] fr
  | .region _ ops true, .plan _ p, K, fr => Dr (Edrw P ops (fun fr => K .normal fr) p [] [] fr)
  | .seq a b, .s A B, K, fr => E P a A (thenK (fun fr' => E P b B K fr') K) fr
  | .seq a b, .j ss kill A B, K, fr =>
    Jn (fun t => Jk fun junk => E P b B K (mk ss t kill fr junk)) fun k => E P a A (thenK (fun fr' => k (tup fr' ss)) K) fr
  | .cond c a b, .s A B, K, fr => If (opv fr c) (E P a A K fr) (E P b B K fr)
  | .block id a, A, K, fr => E P a A (blockK id K) fr
  | .scope a, A, K, fr => E P a A (scopeK K) fr
  | .loop a, .lp ss kill A, K, fr =>
    Lp (fun cont t => Jk fun junk => E P a A (thenK (fun fr' => cont (tup fr' ss)) K) (mk ss t kill fr junk)) (tup fr ss)
  | _, _, _, _ => fun _ => False

/-- The slots that a piece of code may write lie in 'kill'. -/
def dstsIn (kill : Nat) : Code → Bool
  | .region _ ops _ => ops.toList.all fun o => match o.dst with | none => true | some d => inL d kill
  | .seq a b | .cond _ a b => dstsIn kill a && dstsIn kill b
  | .block _ a | .loop a | .scope a => dstsIn kill a
  | .skip | .ret | .exit _ | .label _ | .goto _ | .refuse _ => true
  | _ => false

def chk (P : Program) (n : Nat) : Code → Ann → Bool
  | .skip, _ | .ret, _ | .exit _, _ | .label _, _ | .refuse _, _ => true
  | .region _ ops false, _ => ops.toList.all fun o => match o.dst with | none => true | some d => Nat.blt d n
  | .region _ ops true, .plan inf p => (ops.toList.all fun o => match o.dst with | none => true | some d => Nat.blt d n) && Region.noSelect ops && (ops.toList.all fun o => o.after.toList.all fun e => bif Region.binds .any e then Nat.blt e.on ops.size else true) && infOk ops ops.toList inf && Plan.okM inf ops.size true p 0 0
  | .seq a b, .s A B => chk P n a A && chk P n b B
  | .seq a b, .j _ kill A B => chk P n a A && chk P n b B && dstsIn kill a
  | .cond _ a b, .s A B => chk P n a A && chk P n b B
  | .block _ a, A => chk P n a A
  | .scope a, A => chk P n a A
  | .loop a, .lp _ kill A => chk P n a A && dstsIn kill a
  | _, _ => false

end Go.Sk
end

section
/-
  Soundness of the evaluator.
-/
namespace Go.Sk
open Go

def rel (n : Nat) (a : Act) (fr : Fr) : Prop := a.tmps.size = n ∧ a.defers = [] ∧ ∀ i, a.tmps.getD i undef = fr i

theorem rel.eval {n : Nat} {a : Act} {fr : Fr} (h : rel n a fr) : a.eval = opv fr := by
  funext x
  cases x with
  | tmp t => exact h.2.2 t
  | const v => rfl
  | global g => rfl
  | func f => rfl

theorem rel.put {n : Nat} {a : Act} {fr : Fr} (h : rel n a fr) (d : Option Nat) (v : Value) (hd : ∀ x, d = some x → x < n) :
    rel n (a.put d v) (put fr d v) := by
  obtain ⟨h1, h2, h3⟩ := h
  cases d with
  | none => exact ⟨h1, h2, h3⟩
  | some d =>
    refine ⟨by simp [Act.put, h1], h2, fun i => ?_⟩
    have hlt : d < a.tmps.size := by rw [h1]; exact hd d rfl
    simp only [Act.put, Sk.put]
    by_cases h : i = d
    · subst h
      simp [Array.getD, hlt]
    · rw [beq_ne h]
      simp only [cond_false]
      rw [← h3 i]
      simp only [Array.getD_eq_getD_getElem?, Array.getElem?_setIfInBounds]
      rw [if_neg (fun e => h e.symm)]

theorem upon_of {P : Program} {next : Value → WP} {r : Result Next} {o : Oper} {a : Act} {N : Act → WP} {Q : Exit → Act → WP}
    (h : Upon P next r) (hn : ∀ v w, next v w → N (a.put o.dst v) w) : o.upon P a N Q r := by
  cases r with
  | halt x w => exact h.elim
  | ok x w =>
    cases x <;> first
      | exact hn _ _ h
      | exact h.elim
      | skip
    · refine Calls.mono h fun e w' he => ?_
      cases e with
      | returned v => exact hn _ _ he
      | panicked c => exact he.elim
      | outgrown => exact he.elim
    · exact Rows.mono h fun v w' he => hn _ _ he

theorem quick_run {P : Program} {fr : Fr} {o : Oper} {v : Value} (h : quickOf fr o.op = some v) (w : World) : (execOp (opv fr) o).run P w = .ok (.value v) w := by
  obtain ⟨dst, op, ty, pos, after, guard⟩ := o
  cases op <;> simp only [quickOf, Option.some.injEq, reduceCtorEq] at h
  subst h
  simp only [argsOf_eq, ← map_eq]
  rfl

def decV : Option Bool → Value
  | some b => .bool b
  | none => undef
def decOk (dec : Dec) (fr : Fr) : Prop := ∀ s c, decOf dec s = some c → fr s = decV c

theorem fast_run {P : Program} {dec : Dec} {fr : Fr} {o : Oper} {x : Operand} (hd : decOk dec fr) (h : fastSrc dec o.op = some x) (w : World) : (execOp (opv fr) o).run P w = .ok (.value (opv fr x)) w := by
  obtain ⟨dst, op, ty, pos, after, guard⟩ := o
  cases op <;> simp only [fastSrc, Option.some.injEq, reduceCtorEq] at h
  case move y => subst h; rfl
  case assign y => subst h; rfl
  case pick c a b =>
    cases c <;> simp only [reduceCtorEq] at h
    rename_i c
    cases hc : decOf dec c with
    | none => simp [hc] at h
    | some t =>
      have := hd _ _ hc
      rcases t with _ | _ | _ <;> simp only [hc, Option.some.injEq, reduceCtorEq] at h <;> subst h <;> simp only [execOp, opv, this] <;> rfl

theorem known_spec {dec : Dec} {fr : Fr} (hd : decOk dec fr) {x : Operand} {b : Option Bool} (h : knownOp dec x = some b) : opv fr x = decV b := by
  cases x <;> simp only [knownOp, reduceCtorEq] at h
  · exact hd _ _ h
  · rename_i v
    cases v <;> simp only [reduceCtorEq, Option.some.injEq] at h
    subst h; rfl

theorem yielded_of {ops : Array Oper} {n : Nat} {a : Act} {fr : Fr} (hr : rel n a fr) {j : Nat} {c : Bool} (h : guardV ops fr j = .bool c) : yielded ops a.tmps j = some c := by
  unfold guardV dstOf at h
  unfold yielded
  cases hd : (ops[j]?).bind (·.dst) with
  | none => rw [hd] at h; simp [undef] at h
  | some d =>
    rw [hd] at h
    simp only at h
    have h3 := hr.2.2 d
    rw [h, Array.getD_eq_getD_getElem?] at h3
    simp only [Option.bind_some]
    cases ht : a.tmps[d]? with
    | none => rw [ht] at h3; simp [undef] at h3
    | some x => rw [ht] at h3; simp at h3; subst h3; rfl

theorem put_same (fr : Fr) (d : Nat) (v : Value) (h : fr d = v) : put fr (some d) v = fr := by
  funext i
  unfold put
  by_cases e : i = d
  · subst e; simp [h]
  · simp only [beq_ne e, cond_false]

theorem dec_cons {dec : Dec} {fr : Fr} {d : Nat} {b : Option Bool} (h : decOk dec fr) (hd : fr d = decV b) : decOk ((d, b) :: dec) fr := by
  intro s c hs
  unfold decOf at hs
  by_cases e : d = s
  · subst e; simp at hs; rw [hd, hs]
  · simp only [beq_ne e, cond_false] at hs; exact h s c hs

theorem drop_spec (d : Nat) : ∀ (dec : Dec) (s : Nat) (c : Option Bool), decOf (Dec.drop dec (some d)) s = some c → s ≠ d ∧ decOf dec s = some c
  | [], s, c, h => by simp [Dec.drop, decOf] at h
  | (x, b) :: r, s, c, h => by
    unfold Dec.drop at h
    by_cases e : x = d
    · subst e
      simp only [Nat.beq_refl, cond_true] at h
      obtain ⟨h1, h2⟩ := drop_spec x r s c h
      refine ⟨h1, ?_⟩
      unfold decOf
      simp only [beq_ne (Ne.symm h1), cond_false]
      exact h2
    · simp only [beq_ne e, cond_false] at h
      unfold decOf at h ⊢
      by_cases e' : x = s
      · subst e'
        simp only [Nat.beq_refl, cond_true] at h ⊢
        exact ⟨e, h⟩
      · simp only [beq_ne e', cond_false] at h ⊢
        exact drop_spec d r s c h

theorem dec_put {dec : Dec} {fr : Fr} (h : decOk dec fr) (d : Option Nat) (k : Option (Option Bool)) (v : Value) (hv : ∀ b, k = some b → v = decV b) : decOk (decPut dec d k) (put fr d v) := by
  cases d with
  | none => exact h
  | some d =>
    have base : decOk (Dec.drop dec (some d)) (put fr (some d) v) := by
      intro s c hs
      obtain ⟨h1, h2⟩ := drop_spec d dec s c hs
      unfold put
      simp only [beq_ne h1, cond_false]
      exact h s c h2
    cases k with
    | none => exact base
    | some b => exact dec_cons base (by unfold put; simp [hv b rfl])

theorem stepOp_sound {P : Program} {n : Nat} {dec : Dec} {fr : Fr} {o : Oper} {K : Dec → Fr → WP} {a : Act} {w : World} {N : Act → WP} {Q : Exit → Act → WP}
    (hr : rel n a fr) (hd : decOk dec fr) (h : stepOp P dec fr o K w) (hn : ∀ dec v w, decOk dec (put fr o.dst v) → K dec (put fr o.dst v) w → N (a.put o.dst v) w) : o.wp P a w N Q := by
  unfold Oper.wp
  rw [hr.eval]
  unfold stepOp at h
  cases hf : fastSrc dec o.op with
  | some x =>
    rw [hf] at h
    rw [fast_run hd hf]
    exact hn _ _ _ (dec_put hd _ _ _ fun b hb => known_spec hd hb) h
  | none =>
    rw [hf] at h
    simp only at h
    cases hq : quickOf fr o.op with
    | some v =>
      rw [hq] at h
      rw [quick_run hq]
      exact hn _ _ _ (dec_put hd _ _ _ fun b hb => by cases hb) h
    | none =>
      rw [hq, semOf_eq] at h
      exact upon_of h.out fun v w hk => hn _ v w (dec_put hd _ _ _ fun b hb => by cases hb) hk

theorem Gd_cases {v : Value} {b : Bool} {X Y : WP} {w : World} (h : Gd v b X Y w) : ∃ c, v = .bool c ∧ ((c = b ∧ X w) ∨ (c ≠ b ∧ Y w)) := by
  replace h := h.out
  cases v <;> try exact h.elim
  rename_i c
  refine ⟨c, rfl, ?_⟩
  unfold gdOf at h
  simp only at h
  by_cases e : c = b
  · rw [if_pos e] at h; exact .inl ⟨e, h⟩
  · rw [if_neg e] at h; exact .inr ⟨e, h⟩

theorem guard_cases {ops : Array Oper} {n : Nat} {a : Act} {dec : Dec} {fr : Fr} (hr : rel n a fr) (hd : decOk dec fr) {j : Nat} {b : Bool} {X Y : Dec → Fr → WP} {w : World}
    (h : guardK ops dec fr j b X Y w) : ∃ c, yielded ops a.tmps j = c ∧ ∃ dec', decOk dec' fr ∧ ((c = some b ∧ X dec' fr w) ∨ (c ≠ some b ∧ Y dec' fr w)) := by
  unfold guardK at h
  cases hj : dstOf ops j with
  | none => rw [hj] at h; exact h.elim
  | some d =>
    rw [hj] at h
    simp only at h
    have hy : ∀ c, fr d = .bool c → yielded ops a.tmps j = some c := fun c hc => yielded_of hr (by unfold guardV; rw [hj]; exact hc)
    have hu : fr d = undef → yielded ops a.tmps j = none := fun hc => by
      unfold yielded
      unfold dstOf at hj
      rw [hj]
      have h3 := hr.2.2 d
      rw [hc, Array.getD_eq_getD_getElem?] at h3
      simp only [Option.bind_some]
      cases ht : a.tmps[d]? with
      | none => rfl
      | some x => rw [ht] at h3; simp at h3; subst h3; rfl
    cases hdc : decOf dec d with
    | some c =>
      rw [hdc] at h
      cases c with
      | none => exact ⟨none, hu (hd d none hdc), dec, hd, .inr ⟨by simp, h⟩⟩
      | some c =>
        refine ⟨some c, hy c (hd d _ hdc), dec, hd, ?_⟩
        by_cases e : c = b
        · subst e; simp at h; exact .inl ⟨rfl, h⟩
        · have : (c == b) = false := by simpa using e
          simp only [this, cond_false] at h
          exact .inr ⟨by simpa using e, h⟩
    | none =>
      rw [hdc] at h
      obtain ⟨c, hv, hc⟩ := Gd_cases h
      refine ⟨some c, hy c hv, ?_⟩
      rcases hc with ⟨e, h⟩ | ⟨e, h⟩
      · subst e
        rw [put_same _ _ _ hv] at h
        exact ⟨_, dec_cons (b := some c) hd hv, .inl ⟨rfl, h⟩⟩
      · have : c = !b := by cases b <;> cases c <;> simp_all
        subst this
        rw [put_same _ _ _ hv] at h
        exact ⟨_, dec_cons (b := some (!b)) hd hv, .inr ⟨by simp, h⟩⟩

def dstOk (n : Nat) (o : Oper) : Prop := ∀ d, o.dst = some d → d < n

theorem dstOk_of {n : Nat} {ops : Array Oper} (h : (ops.toList.all fun o => match o.dst with | none => true | some d => Nat.blt d n) = true) : ∀ o ∈ ops.toList, dstOk n o := by
  intro o ho d hd
  have := List.all_eq_true.1 h o ho
  rw [hd] at this
  simpa using this

/-- What a piece of code leaves alone. -/
def keeps (kill : Nat) (fr fr' : Fr) : Prop := ∀ i, inL i kill = false → fr' i = fr i

theorem keeps.refl (kill : Nat) (fr : Fr) : keeps kill fr fr := fun _ _ => rfl
theorem keeps.trans {kill : Nat} {a b c : Fr} (h : keeps kill a b) (h' : keeps kill b c) : keeps kill a c := fun i hi => (h' i hi).trans (h i hi)
theorem keeps.put {kill : Nat} {fr : Fr} {d : Option Nat} {v : Value} (h : ∀ x, d = some x → inL x kill = true) : keeps kill fr (put fr d v) := by
  intro i hi
  cases d with
  | none => rfl
  | some d =>
    unfold Sk.put
    by_cases e : i = d
    · subst e; rw [h i rfl] at hi; cases hi
    · simp only [beq_ne e, cond_false]

def dstKill (kill : Nat) (o : Oper) : Prop := ∀ d, o.dst = some d → inL d kill = true

theorem Eops_sound {P : Program} {n : Nat} {ops : Array Oper} {K : Fr → WP} {Q : Exit → Act → WP} : ∀ (l : List Oper) (k : Nat), (∀ j, l[j]? = ops[k + j]?) → (∀ o ∈ l, dstOk n o) →
    ∀ (dec : Dec) (fr : Fr) (a : Act) (w : World), rel n a fr → decOk dec fr →
    (∀ fr' a' w', rel n a' fr' → (∀ kill, (∀ o ∈ l, dstKill kill o) → keeps kill fr fr') → K fr' w' → Q .normal a' w') →
    Eops P ops K l dec fr w → wpOps P ops Q (List.range' k l.length) a w
  | [], _, _, _, dec, fr, a, w, hr, _, hK, h => by simpa [wpOps] using hK fr a w hr (fun _ _ => keeps.refl _ _) h
  | o :: l, k, hl, hd, dec, fr, a, w, hr, hdec, hK, h => by
    have h0 : ops[k]? = some o := by simpa using (hl 0).symm
    simp only [List.length_cons, List.range'_succ, wpOps, h0]
    have hl' : ∀ j, l[j]? = ops[k + 1 + j]? := fun j => by have := hl (j + 1); simpa [Nat.add_assoc, Nat.add_comm 1 j] using this
    have hdo : dstOk n o := hd o (by simp)
    have next : ∀ dec v w, decOk dec (put fr o.dst v) → Eops P ops K l dec (put fr o.dst v) w → wpOps P ops Q (List.range' (k + 1) l.length) (a.put o.dst v) w := fun dec v w hdec hE =>
      Eops_sound l (k + 1) hl' (fun o ho => hd o (by simp [ho])) _ _ _ _ (hr.put _ _ hdo) hdec
        (fun fr' a' w' hr' hk hK' => hK fr' a' w' hr' (fun kill hkill => (keeps.put (hkill o (by simp))).trans (hk kill fun o ho => hkill o (by simp [ho]))) hK') hE
    unfold Eops at h
    cases hg : o.guard with
    | none =>
      simp only [hg] at h
      have hw : Region.wanted o (yielded ops a.tmps) = true := by simp [Region.wanted, hg]
      rw [if_pos hw]
      exact .inl (stepOp_sound hr hdec h next)
    | some g =>
      obtain ⟨j, b⟩ := g
      simp only [hg] at h
      obtain ⟨c, hy, dec', hdec', hc⟩ := guard_cases hr hdec h
      rcases hc with ⟨e, h⟩ | ⟨e, h⟩
      · have hw : Region.wanted o (yielded ops a.tmps) = true := by simp [Region.wanted, hg, hy, e]
        rw [if_pos hw]
        exact .inl (stepOp_sound hr hdec' h next)
      · have hw : Region.wanted o (yielded ops a.tmps) = false := by simp [Region.wanted, hg, hy, e]
        rw [hw]
        simp only [Bool.false_eq_true, if_false]
        exact next _ _ _ (dec_put hdec' _ _ _ fun b hb => by cases hb; rfl) h

/-! ### Regions that draw their order -/
section
variable {P : Program} {ops : Array Oper} {Q : Exit → Act → WP}

/-- Whatever order is picked from here on; behind each operation that is carried out, what is owed. -/
def wpR (P : Program) (ops : Array Oper) (Q : Exit → Act → WP) (Tr : Nat → World → World → Prop) : Nat → Array Bool → Act → WP
  | 0, listed, a, w => Region.ready .any ops listed = [] ∧ Q .normal a w
  | fuel + 1, listed, a, w =>
    (Region.ready .any ops listed = [] → Q .normal a w) ∧
    ∀ i ∈ Region.ready .any ops listed, wpOp P ops Q i (fun a' w' => Tr i w w' ∧ wpR P ops Q Tr fuel (listed.setIfInBounds i true) a' w') a w

theorem wpAny_of_wpR {Tr : Nat → World → World → Prop} : ∀ (fuel : Nat) (listed : Array Bool) (a : Act) (w : World), wpR P ops Q Tr fuel listed a w → wpAny P .any ops Q fuel listed a w
  | 0, _, _, _, h => h
  | fuel + 1, _, _, _, h => ⟨h.1, fun i hi => wpOp_mono (fun a' w' h' => wpAny_of_wpR fuel _ a' w' h'.2) (h.2 i hi)⟩

theorem wpR_mono {Tr Tr' : Nat → World → World → Prop} (hO : ∀ i w w', Tr i w w' → Tr' i w w') : ∀ (fuel : Nat) (listed : Array Bool) (a : Act) (w : World), wpR P ops Q Tr fuel listed a w → wpR P ops Q Tr' fuel listed a w
  | 0, _, _, _, h => h
  | fuel + 1, _, _, _, h => ⟨h.1, fun i hi => wpOp_mono (fun a' w' h' => ⟨hO _ _ _ h'.1, wpR_mono hO fuel _ a' w' h'.2⟩) (h.2 i hi)⟩

/-- What is listed has all that it hangs on listed. -/
def Closed (ops : Array Oper) (listed : Array Bool) : Prop :=
  ∀ j o, ops[j]? = some o → listed.getD j false = true → ∀ e ∈ o.after, Region.binds .any e = true → listed.getD e.on false = true

theorem closed_set {listed : Array Bool} {i : Nat} (h : Closed ops listed) (hi : i ∈ Region.ready .any ops listed) : Closed ops (listed.setIfInBounds i true) := by
  intro j o hj hlj e he hb
  obtain ⟨_, oi, hoi, hall⟩ := mem_ready.1 hi
  by_cases hji : j = i
  · subst hji
    rw [hoi] at hj; cases hj
    exact getD_set_true (hall e he hb)
  · rw [getD_set_ne false (Ne.symm hji)] at hlj
    exact getD_set_true (h j o hj hlj e he hb)

/-- What hangs on an operation that has not come up has not come up, nor may it. -/
theorem anc_not_listed {i : Nat} {listed : Array Bool} (hc : Closed ops listed) (hi : listed.getD i false = false) : ∀ (f d : Nat), anc ops f d i = true → listed.getD d false = true → False
  | 0, _, h, _ => by simp [anc] at h
  | f + 1, d, h, hd => by
    unfold anc at h
    cases ho : ops[d]? with
    | none => simp [ho] at h
    | some o =>
      simp only [ho, List.any_eq_true, Bool.and_eq_true, Bool.or_eq_true] at h
      obtain ⟨e, he, hb, h⟩ := h
      have hl := hc d o ho hd e (by simpa using he) hb
      rcases h with h | h
      · rw [Nat.eq_of_beq_eq_true h, hi] at hl; cases hl
      · exact anc_not_listed hc hi f e.on h hl

theorem anc_false_of_ready {i j : Nat} {listed : Array Bool} (hc : Closed ops listed) (hi : listed.getD i false = false) (hj : j ∈ Region.ready .any ops listed) (f : Nat) : anc ops f j i = false := by
  cases f with
  | zero => rfl
  | succ f =>
    cases h : anc ops (f + 1) j i
    · rfl
    · obtain ⟨_, o, ho, hall⟩ := mem_ready.1 hj
      unfold anc at h
      simp only [ho, List.any_eq_true, Bool.and_eq_true, Bool.or_eq_true] at h
      obtain ⟨e, he, hb, h⟩ := h
      have hl := hall e (by simpa using he) hb
      rcases h with h | h
      · rw [Nat.eq_of_beq_eq_true h, hi] at hl; cases hl
      · exact (anc_not_listed hc hi f e.on h hl).elim

theorem unlisted {i : Nat} {listed : Array Bool} (hi : i ∈ Region.ready .any ops listed) : listed.getD i false = false := by
  have h0 := (mem_ready.1 hi).1
  rcases Nat.lt_or_ge i listed.size with h' | h'
  · simp [h'] at h0 ⊢; exact h0
  · simp [Array.getElem?_eq_none h'] at h0

def trOf (ops : Array Oper) (Cs : List (Nat × WP)) (j : Nat) (w w' : World) : Prop := ∀ x ∈ Cs, anc ops ops.size j x.1 = false → x.2 w → x.2 w'

theorem wpR_first {Cs : List (Nat × WP)} {C : WP} {i : Nat} {oi : Oper} {v : Value} (hi : ops[i]? = some oi) (hsel : ∀ (j : Nat) (o : Oper) cs b, ops[j]? = some o → o.op ≠ .select cs b)
    (hQ : ∀ c a w, Q (.panic c) a w → False) :
    ∀ (fuel : Nat) (listed : Array Bool) (a : Act) (w : World), Closed ops listed →
      (∀ j oj, ops[j]? = some oj → j ≠ i → listed.getD j true = false → (∀ e ∈ oj.after, Region.binds .any e = true → e.on ≠ i) → oi.apart ops oj = true) →
      i ∈ Region.ready .any ops listed → YieldsIf P ops C oi v a → C w →
      wpR P ops Q (trOf ops ((i, C) :: Cs)) fuel (listed.setIfInBounds i true) (a.put oi.dst v) w →
      wpR P ops Q (trOf ops Cs) (fuel + 1) listed a w := by
  have hmono : ∀ i C (Cs : List (Nat × WP)) j w w', trOf ops ((i, C) :: Cs) j w w' → trOf ops Cs j w w' := fun i C Cs j w w' h x hx => h x (by simp [hx])
  have hrefl : ∀ (Cs : List (Nat × WP)) j w, trOf ops Cs j w w := fun Cs j w x _ _ h => h
  intro fuel
  induction fuel with
  | zero =>
    intro listed a w _ _ hr hy hC H
    refine ⟨fun h => (by rw [h] at hr; cases hr), fun j hj => ?_⟩
    by_cases hji : j = i
    · subst hji; exact hy.wpOp hi hC ⟨hrefl _ _ _, H⟩
    · have := ready_mono hj hji
      rw [H.1] at this
      cases this
  | succ fuel ih =>
    intro listed a w hcl hfree hr hy hC H
    refine ⟨fun h => (by rw [h] at hr; cases hr), fun j hj => ?_⟩
    by_cases hji : j = i
    · subst hji
      exact hy.wpOp hi hC ⟨hrefl _ _ _, wpR_mono (hmono _ _ _) _ _ _ _ H⟩
    · have h1 := H.2 j (ready_mono hj hji)
      obtain ⟨hjun, oj, hoj, hall⟩ := mem_ready.1 hj
      have hiun := unlisted hr
      have hnot : ∀ e ∈ oj.after, Region.binds .any e = true → e.on ≠ i := fun e he hb heq => by
        have h1 := hall e he hb
        rw [heq, hiun] at h1; cases h1
      have h2 := wpOp_putIf hoj (hfree j oj hoj hji hjun hnot) (fun cs b => hsel i oi cs b hi) (fun cs b => hsel j oj cs b hoj) (fun c a w h => (hQ c _ w h).elim) hy h1
      have hfree' : ∀ k ok, ops[k]? = some ok → k ≠ i → (listed.setIfInBounds j true).getD k true = false →
          (∀ e ∈ ok.after, Region.binds .any e = true → e.on ≠ i) → oi.apart ops ok = true := fun k ok hk hki hun hno => by
        refine hfree k ok hk hki ?_ hno
        by_cases hjk : j = k
        · subst hjk; exact hjun
        · rw [getD_set_ne true hjk] at hun; exact hun
      have hanc := anc_false_of_ready hcl hiun hj ops.size
      refine wpOp_mono (fun a' w' h3 => ⟨hmono _ _ _ _ _ _ h3.2.1, ih (listed.setIfInBounds j true) a' w' (closed_set hcl hj) hfree' (ready_mono hr (Ne.symm hji)) h3.1 (h3.2.1 (i, C) (by simp) hanc hC) ?_⟩) h2
      rw [Array.setIfInBounds_comm _ _ hji]
      exact h3.2.2

theorem withs_out {i : Nat} {K : WP} {w' : World} : ∀ (Cs : List (Nat × WP)), withs ops i Cs K w' → (∀ x ∈ Cs, anc ops ops.size i x.1 = false → x.2 w') ∧ K w'
  | [], h => ⟨fun _ h => (by cases h), h⟩
  | (q, C) :: r, h => by
    unfold withs at h
    cases ha : anc ops ops.size i q
    · rw [ha] at h
      obtain ⟨h1, h2⟩ := h
      obtain ⟨h3, h4⟩ := withs_out r h2
      refine ⟨fun x hx hn => ?_, h4⟩
      rcases List.mem_cons.1 hx with rfl | hx
      · exact h1
      · exact h3 x hx hn
    · rw [ha] at h
      obtain ⟨h3, h4⟩ := withs_out r h
      refine ⟨fun x hx hn => ?_, h4⟩
      rcases List.mem_cons.1 hx with rfl | hx
      · rw [ha] at hn; cases hn
      · exact h3 x hx hn

theorem listedA_cons (ls : List Nat) (i : Nat) : (listedA ops ls).setIfInBounds i true = listedA ops (i :: ls) := rfl

theorem quick_first {n : Nat} {K : List (Nat × WP) → Dec → Fr → WP} {dec : Dec} {fr : Fr} {o : Oper} {a : Act} {w : World} {Cs : List (Nat × WP)} {i : Nat} (hr : rel n a fr) (hd : decOk dec fr) (h : stepQ P dec fr o Cs i K w) :
    ∃ C : WP, C w ∧ ∃ v, (∀ w, C w → (execOp a.eval o).run P w = .ok (.value v) w) ∧ ∃ dec', decOk dec' (put fr o.dst v) ∧ ((K Cs dec' (put fr o.dst v) w ∧ C = fun _ => True) ∨ K ((i, C) :: Cs) dec' (put fr o.dst v) w) := by
  rw [hr.eval]
  unfold stepQ at h
  cases hf : fastSrc dec o.op with
  | some x =>
    rw [hf] at h
    exact ⟨fun _ => True, trivial, _, fun w _ => fast_run hd hf w, _, dec_put hd _ _ _ fun b hb => known_spec hd hb, .inl ⟨h, rfl⟩⟩
  | none =>
    rw [hf] at h
    simp only at h
    cases hq : quickOf fr o.op with
    | some v =>
      rw [hq] at h
      exact ⟨fun _ => True, trivial, v, fun w _ => quick_run hq w, _, dec_put hd _ _ _ (fun b hb => by cases hb), .inl ⟨h, rfl⟩⟩
    | none =>
      rw [hq, semOf_eq] at h
      obtain ⟨C, h1, v, h2, h3⟩ := h.out
      exact ⟨C, h1, v, h2, _, dec_put hd _ _ _ (fun b hb => by cases hb), .inr h3⟩

theorem tr_true {Cs : List (Nat × WP)} {i j : Nat} {w w' : World} (h : trOf ops Cs j w w') : trOf ops ((i, fun _ => True) :: Cs) j w w' := fun x hx ha hw => by
  rcases List.mem_cons.1 hx with rfl | hx
  · trivial
  · exact h x hx ha hw

theorem Edrw_sound {n : Nat} {K : Fr → WP} (hsel : Region.noSelect ops = true) (hQ : ∀ c a w, Q (.panic c) a w → False) (hd : ∀ o ∈ ops.toList, dstOk n o) :
    ∀ (p : Plan) (top : Bool) (ls : List Nat) (Cs : List (Nat × WP)) (dec : Dec) (fr : Fr) (a : Act) (w : World) (fuel : Nat), ls.length + fuel = ops.size → Closed ops (listedA ops ls) →
    Plan.okP ops top p ls → rel n a fr → decOk dec fr →
    (∀ fr' a' w', rel n a' fr' → (∀ kill, (∀ o ∈ ops.toList, dstKill kill o) → keeps kill fr fr') → K fr' w' → Q .normal a' w') →
    Edrw P ops K p Cs dec fr w →
    (top = true → wpR P ops Q (trOf ops Cs) fuel (listedA ops ls) a w) ∧
    (∀ i ∈ p.heads, i ∈ Region.ready .any ops (listedA ops ls) → wpOp P ops Q i (fun a' w' => trOf ops Cs i w w' ∧ wpR P ops Q (trOf ops Cs) (fuel - 1) ((listedA ops ls).setIfInBounds i true) a' w') a w)
  | .done, top, ls, Cs, dec, fr, a, w, fuel, hf, hcl, hok, hr, hdec, hK, h => by
    refine ⟨fun _ => ?_, fun i hi => by cases hi⟩
    have hok : Region.ready .any ops (listedA ops ls) = [] := hok
    have hq := hK fr a w hr (fun _ _ => keeps.refl _ _) h
    cases fuel with
    | zero => exact ⟨hok, hq⟩
    | succ f => exact ⟨fun _ => hq, fun i hi => by rw [hok] at hi; cases hi⟩
  | .q i p, top, ls, Cs, dec, fr, a, w, fuel, hf, hcl, hok, hr, hdec, hK, h => by
    refine ⟨fun _ => ?_, fun i hi => by cases hi⟩
    obtain ⟨hlt, hrd, hfr, hok'⟩ := hok
    obtain ⟨f, rfl⟩ : ∃ f, fuel = f + 1 := ⟨fuel - 1, by omega⟩
    unfold Edrw at h
    cases hoi : ops[i]? with
    | none => simp only [hoi] at h
    | some o =>
      simp only [hoi] at h
      have hm : o ∈ ops.toList := by simpa using Array.mem_of_getElem? hoi
      have hcl' : Closed ops (listedA ops (i :: ls)) := closed_set hcl hrd
      have next : ∀ Cs dec v, decOk dec (put fr o.dst v) → Edrw P ops K p Cs dec (put fr o.dst v) w → wpR P ops Q (trOf ops Cs) f (listedA ops (i :: ls)) (a.put o.dst v) w := fun Cs dec v hdec hE =>
        (Edrw_sound hsel hQ hd p true (i :: ls) Cs _ _ _ _ f (by simp; omega) hcl' hok' (hr.put _ _ (hd o hm)) hdec
          (fun fr' a' w' hr' hk hK' => hK fr' a' w' hr' (fun kill hkill => (keeps.put (hkill o hm)).trans (hk kill hkill)) hK') hE).1 rfl
      have ran : ∀ {C : WP} {v : Value}, C w → YieldsIf P ops C o v a → wpR P ops Q (trOf ops ((i, C) :: Cs)) f (listedA ops (i :: ls)) (a.put o.dst v) w → wpR P ops Q (trOf ops Cs) (f + 1) (listedA ops ls) a w := fun hC hy hw =>
        wpR_first hoi (Region.noSelect_spec hsel) hQ f (listedA ops ls) a w hcl (hfr o hoi) hrd hy hC hw
      have step : Region.wanted o (yielded ops a.tmps) = true → ∀ dec, decOk dec fr → stepQ P dec fr o Cs i (Edrw P ops K p) w → wpR P ops Q (trOf ops Cs) (f + 1) (listedA ops ls) a w := fun hw dec hdec hs => by
        obtain ⟨C, hC, v, hv, dec', hdec', hE⟩ := quick_first hr hdec hs
        refine ran hC (.inl ⟨hw, hv⟩) ?_
        rcases hE with ⟨hE, rfl⟩ | hE
        · exact wpR_mono (fun _ _ _ h => tr_true h) _ _ _ _ (next _ _ _ hdec' hE)
        · exact next _ _ _ hdec' hE
      cases hg : o.guard with
      | none =>
        simp only [hg] at h
        exact step (by simp [Region.wanted, hg]) dec hdec h
      | some g =>
        obtain ⟨j, b⟩ := g
        simp only [hg] at h
        obtain ⟨c, hy, dec', hdec', hc⟩ := guard_cases hr hdec h
        rcases hc with ⟨e, h⟩ | ⟨e, h⟩
        · exact step (by simp [Region.wanted, hg, hy, e]) dec' hdec' h
        · refine ran (C := fun _ => True) (v := undef) trivial (.inr ⟨by simp [Region.wanted, hg, hy, e], rfl⟩) ?_
          exact wpR_mono (fun _ _ _ h => tr_true h) _ _ _ _ (next _ _ _ (dec_put hdec' _ _ _ fun b hb => by cases hb; rfl) h)
  | .l i p, top, ls, Cs, dec, fr, a, w, fuel, hf, hcl, hok, hr, hdec, hK, h => by
    obtain ⟨hlt, htop, hok'⟩ := hok
    obtain ⟨f, rfl⟩ : ∃ f, fuel = f + 1 := ⟨fuel - 1, by omega⟩
    have main : i ∈ Region.ready .any ops (listedA ops ls) → wpOp P ops Q i (fun a' w' => trOf ops Cs i w w' ∧ wpR P ops Q (trOf ops Cs) f ((listedA ops ls).setIfInBounds i true) a' w') a w := fun hrd => by
      unfold Edrw at h
      unfold wpOp
      cases hoi : ops[i]? with
      | none => simp only [hoi] at h
      | some o =>
        simp only [hoi] at h ⊢
        have hm : o ∈ ops.toList := by simpa using Array.mem_of_getElem? hoi
        have hcl' : Closed ops (listedA ops (i :: ls)) := closed_set hcl hrd
        have next0 : ∀ dec v w', decOk dec (put fr o.dst v) → Edrw P ops K p Cs dec (put fr o.dst v) w' → wpR P ops Q (trOf ops Cs) f ((listedA ops ls).setIfInBounds i true) (a.put o.dst v) w' := fun dec v w' hdec h2 =>
          (Edrw_sound hsel hQ hd p true (i :: ls) Cs _ _ _ _ f (by simp; omega) hcl' hok' (hr.put _ _ (hd o hm)) hdec
            (fun fr' a' w' hr' hk hK' => hK fr' a' w' hr' (fun kill hkill => (keeps.put (hkill o hm)).trans (hk kill hkill)) hK') h2).1 rfl
        have next : ∀ dec v w', decOk dec (put fr o.dst v) → withs ops i Cs (Edrw P ops K p Cs dec (put fr o.dst v)) w' → trOf ops Cs i w w' ∧ wpR P ops Q (trOf ops Cs) f ((listedA ops ls).setIfInBounds i true) (a.put o.dst v) w' := fun dec v w' hdec hE => by
          obtain ⟨h1, h2⟩ := withs_out Cs hE
          exact ⟨fun x hx ha _ => h1 x hx ha, next0 dec v w' hdec h2⟩
        cases hg : o.guard with
        | none =>
          simp only [hg] at h
          rw [if_pos (by simp [Region.wanted, hg])]
          exact .inl (stepOp_sound hr hdec h next)
        | some g =>
          obtain ⟨j, b⟩ := g
          simp only [hg] at h
          obtain ⟨c, hy, dec', hdec', hc⟩ := guard_cases hr hdec h
          rcases hc with ⟨e, h⟩ | ⟨e, h⟩
          · rw [if_pos (by simp [Region.wanted, hg, hy, e])]
            exact .inl (stepOp_sound hr hdec' h next)
          · rw [if_neg (by simp [Region.wanted, hg, hy, e])]
            exact ⟨fun x _ _ h => h, next0 _ _ _ (dec_put hdec' _ _ _ fun b hb => by cases hb; rfl) h⟩
    refine ⟨fun ht => ?_, fun j hj hrd => ?_⟩
    · subst ht
      obtain ⟨h1, h2⟩ := htop rfl
      exact ⟨fun h0 => (by rw [h0] at h1; cases h1), fun j hj => (by have := h2 j hj; subst this; exact main h1)⟩
    · simp only [Plan.heads, List.mem_singleton] at hj
      subst hj
      exact main hrd
  | .or p r, top, ls, Cs, dec, fr, a, w, fuel, hf, hcl, hok, hr, hdec, hK, h => by
    obtain ⟨hlt, htop, hok1, hok2⟩ := hok
    obtain ⟨f, rfl⟩ : ∃ f, fuel = f + 1 := ⟨fuel - 1, by omega⟩
    obtain ⟨h1, h2⟩ := h
    have i1 := (Edrw_sound hsel hQ hd p false ls Cs dec fr a w (f + 1) hf hcl hok1 hr hdec hK h1).2
    have i2 := (Edrw_sound hsel hQ hd r false ls Cs dec fr a w (f + 1) hf hcl hok2 hr hdec hK h2).2
    have heads : ∀ i ∈ (Plan.or p r).heads, i ∈ Region.ready .any ops (listedA ops ls) → wpOp P ops Q i (fun a' w' => trOf ops Cs i w w' ∧ wpR P ops Q (trOf ops Cs) f ((listedA ops ls).setIfInBounds i true) a' w') a w := fun i hi hrd => by
      rcases List.mem_append.1 hi with hi | hi
      · exact i1 i hi hrd
      · exact i2 i hi hrd
    refine ⟨fun ht => ?_, heads⟩
    subst ht
    obtain ⟨h1, h2⟩ := htop rfl
    exact ⟨fun h0 => absurd h0 h1, fun i hi => heads i (h2 i hi) hi⟩

/-! ### The check of a plan, by masks -/
theorem bit_eq (m i : Nat) : bit m i = m.testBit i := by
  unfold bit
  rw [Nat.testBit_eq_decide_div_mod_eq]
  have e1 : Nat.land (Nat.shiftRight m i) 1 = m / 2 ^ i % 2 := by
    show (m >>> i) &&& 1 = _
    rw [Nat.shiftRight_eq_div_pow, Nat.and_one_is_mod]
  rw [e1]
  cases h : Nat.beq (m / 2 ^ i % 2) 1
  · symm; rw [decide_eq_false_iff_not]; intro e; rw [e] at h; cases h
  · symm; rw [decide_eq_true_iff]; exact Nat.eq_of_beq_eq_true h

theorem bit_lor (m k i : Nat) : bit (Nat.lor m (one k)) i = (bit m i || Nat.beq k i) := by
  rw [bit_eq, bit_eq]
  show (m ||| (1 <<< k)).testBit i = _
  rw [Nat.testBit_or, Nat.testBit_shiftLeft]
  congr 1
  by_cases h : k = i
  · subst h; simp
  · rw [beq_ne h]
    by_cases h2 : k ≤ i
    · have : (1 : Nat).testBit (i - k) = false := by
        obtain ⟨d, hd⟩ : ∃ d, i - k = d + 1 := ⟨i - k - 1, by omega⟩
        rw [hd]; simp [Nat.testBit_succ]
      simp [this]
    · simp; omega

theorem memN_spec {i : Nat} : ∀ {l : List Nat}, memN i l = true ↔ i ∈ l
  | [] => by simp [memN]
  | x :: r => by
    unfold memN
    by_cases h : i = x
    · subst h; simp
    · simp [beq_ne h, h, memN_spec (l := r)]

theorem allN_spec {f : Nat → Bool} : ∀ {l : List Nat}, allN f l = true ↔ ∀ x ∈ l, f x = true
  | [] => by simp [allN]
  | x :: r => by simp [allN, allN_spec (l := r)]

theorem bit_zero (i : Nat) : bit 0 i = false := by rw [bit_eq]; simp

theorem depM_spec : ∀ (l : List Edge) (i : Nat), bit (depM l) i = true ↔ ∃ e ∈ l, Region.binds .any e = true ∧ e.on = i
  | [], i => by simp [depM, bit_zero]
  | e :: r, i => by
    unfold depM
    cases h : Region.binds .any e
    · simp only [cond_false, depM_spec r i, List.mem_cons]
      constructor
      · rintro ⟨x, hx, hb, he⟩; exact ⟨x, .inr hx, hb, he⟩
      · rintro ⟨x, rfl | hx, hb, he⟩
        · rw [h] at hb; cases hb
        · exact ⟨x, hx, hb, he⟩
    · simp only [cond_true]
      have hc : Nat.lor (one e.on) (depM r) = Nat.lor (depM r) (one e.on) := Nat.or_comm _ _
      rw [hc, bit_lor, Bool.or_eq_true, depM_spec r i]
      constructor
      · rintro (⟨x, hx, hb, he⟩ | he)
        · exact ⟨x, by simp [hx], hb, he⟩
        · exact ⟨e, by simp, h, Nat.eq_of_beq_eq_true he⟩
      · rintro ⟨x, hx, hb, he⟩
        rcases List.mem_cons.1 hx with rfl | hx
        · right; rw [he]; simp
        · left; exact ⟨x, hx, hb, he⟩

theorem lookM_spec : ∀ (l : List Nat) (i : Nat), bit (lookM l) i = true ↔ i ∈ l
  | [], i => by simp [lookM, bit_zero]
  | t :: r, i => by
    unfold lookM
    have hc : Nat.lor (one t) (lookM r) = Nat.lor (lookM r) (one t) := Nat.or_comm _ _
    rw [hc, bit_lor, Bool.or_eq_true, lookM_spec r i, List.mem_cons]
    constructor
    · rintro (h | h)
      · exact .inr h
      · exact .inl (Nat.eq_of_beq_eq_true h).symm
    · rintro (rfl | h)
      · right; simp
      · exact .inl h

theorem one_spec (d i : Nat) : bit (one d) i = Nat.beq d i := by
  have := bit_lor 0 d i
  have e : Nat.lor 0 (one d) = one d := Nat.zero_or _
  rw [e, bit_zero] at this
  simpa using this

theorem land_zero {a b : Nat} (h : Nat.beq (Nat.land a b) 0 = true) (i : Nat) (ha : bit a i = true) (hb : bit b i = true) : False := by
  have h : a &&& b = 0 := Nat.eq_of_beq_eq_true h
  rw [bit_eq] at ha hb
  have : (a &&& b).testBit i = true := by rw [Nat.testBit_and, ha, hb]; rfl
  rw [h] at this
  simp at this

theorem land_sub {a m : Nat} (h : Nat.beq (Nat.land a m) a = true) (i : Nat) (ha : bit a i = true) : bit m i = true := by
  have h : a &&& m = a := Nat.eq_of_beq_eq_true h
  rw [bit_eq] at *
  rw [← h, Nat.testBit_and, Bool.and_eq_true] at ha
  exact ha.2

theorem land_sub' {a m : Nat} (h : ∀ i, bit a i = true → bit m i = true) : Nat.beq (Nat.land a m) a = true := by
  have : a &&& m = a := by
    apply Nat.eq_of_testBit_eq
    intro i
    rw [Nat.testBit_and]
    have := h i
    rw [bit_eq, bit_eq] at this
    cases ha : a.testBit i
    · simp
    · simp [this ha]
  show Nat.beq (a &&& m) a = true
  rw [this]; simp

theorem infOk_spec : ∀ (l : List Oper) (inf : List (Nat × Nat × Nat)), infOk ops l inf = true → inf = l.map (infOf ops)
  | [], [], _ => rfl
  | [], _ :: _, h => by simp [infOk] at h
  | _ :: _, [], h => by simp [infOk] at h
  | o :: r, (x1, x2, x3) :: s, h => by
    simp only [infOk, Bool.and_eq_true] at h
    obtain ⟨h1, h2, h3, h4⟩ := h
    simp only [List.map_cons, infOf]
    rw [← infOk_spec r s h4, Nat.eq_of_beq_eq_true h1, Nat.eq_of_beq_eq_true h2, Nat.eq_of_beq_eq_true h3]

def mrel (ops : Array Oper) (m : Nat) (ls : List Nat) : Prop := ∀ i, i < ops.size → (bit m i = true ↔ (listedA ops ls).getD i false = true)

theorem listedA_size (ls : List Nat) : (listedA ops ls).size = ops.size := by
  induction ls with
  | nil => simp [listedA]
  | cons i r ih => rw [← listedA_cons, Array.size_setIfInBounds, ih]

theorem listedA_get (ls : List Nat) (i : Nat) (h : i < ops.size) : ((listedA ops ls).getD i false = true ↔ i ∈ ls) := by
  induction ls with
  | nil => simp [listedA, Array.getD_eq_getD_getElem?, h]
  | cons x r ih =>
    rw [← listedA_cons]
    by_cases e : x = i
    · subst e
      have : x < (listedA ops r).size := by rw [listedA_size]; exact h
      simp [Array.getD_eq_getD_getElem?, this]
    · rw [getD_set_ne false e, ih]
      simp [Ne.symm e]

theorem mrel_nil : mrel ops 0 [] := fun i h => by rw [bit_zero, listedA_get [] i h]; simp
theorem mrel_cons {m : Nat} {ls : List Nat} (h : mrel ops m ls) (i : Nat) : mrel ops (Nat.lor m (one i)) (i :: ls) := fun j hj => by
  rw [bit_lor, Bool.or_eq_true, h j hj, listedA_get _ j hj, listedA_get _ j hj, List.mem_cons]
  constructor
  · rintro (h | h)
    · exact .inr h
    · exact .inl (Nat.eq_of_beq_eq_true h).symm
  · rintro (rfl | h)
    · right; simp
    · exact .inl h

theorem getD_tf {a : Array Bool} {i : Nat} (h : i < a.size) : a.getD i true = a.getD i false := by simp [Array.getD, h]

theorem edge_in (hcl : ∀ (j : Nat) (o : Oper), ops[j]? = some o → ∀ e ∈ o.after, Region.binds .any e = true → e.on < ops.size) {m : Nat} {ls : List Nat} (hm : mrel ops m ls) (j : Nat) :
    j ∈ Region.ready .any ops (listedA ops ls) ↔ ∃ o, ops[j]? = some o ∧ bit m j = false ∧ Nat.beq (Nat.land (depM o.after.toList) m) (depM o.after.toList) = true := by
  rw [mem_ready]
  constructor
  · rintro ⟨h1, o, ho, h2⟩
    have hj : j < ops.size := by
      rcases Nat.lt_or_ge j ops.size with h | h
      · exact h
      · simp [Array.getElem?_eq_none h] at ho
    refine ⟨o, ho, ?_, land_sub' fun i hi => ?_⟩
    · cases hb : bit m j
      · rfl
      · rw [getD_tf (by rw [listedA_size]; exact hj), (hm j hj).1 hb] at h1; cases h1
    · obtain ⟨e, he, hb, rfl⟩ := (depM_spec _ _).1 hi
      exact (hm _ (hcl j o ho e (by simpa using he) hb)).2 (h2 e (by simpa using he) hb)
  · rintro ⟨o, ho, h1, h2⟩
    have hj : j < ops.size := by
      rcases Nat.lt_or_ge j ops.size with h | h
      · exact h
      · simp [Array.getElem?_eq_none h] at ho
    refine ⟨?_, o, ho, fun e he hb => ?_⟩
    · rw [getD_tf (by rw [listedA_size]; exact hj)]
      cases hg : (listedA ops ls).getD j false
      · rfl
      · rw [(hm j hj).2 hg] at h1; cases h1
    · exact (hm _ (hcl j o ho e he hb)).1 (land_sub h2 e.on ((depM_spec _ _).2 ⟨e, by simpa using he, hb, rfl⟩))

theorem readyM_spec (m : Nat) : ∀ (l : List Oper) (k : Nat) (j : Nat), j ∈ readyM m k (l.map (infOf ops)) ↔ ∃ o, k ≤ j ∧ l[j - k]? = some o ∧ bit m j = false ∧ Nat.beq (Nat.land (depM o.after.toList) m) (depM o.after.toList) = true
  | [], k, j => by simp [readyM]
  | o :: r, k, j => by
    have ih := readyM_spec m r (k + 1) j
    have tail : (∃ o', k ≤ j ∧ (o :: r)[j - k]? = some o' ∧ bit m j = false ∧ Nat.beq (Nat.land (depM o'.after.toList) m) (depM o'.after.toList) = true) ↔
        (j = k ∧ bit m k = false ∧ Nat.beq (Nat.land (depM o.after.toList) m) (depM o.after.toList) = true) ∨
        (∃ o', k + 1 ≤ j ∧ r[j - (k + 1)]? = some o' ∧ bit m j = false ∧ Nat.beq (Nat.land (depM o'.after.toList) m) (depM o'.after.toList) = true) := by
      constructor
      · rintro ⟨o', h1, h2, h3, h4⟩
        by_cases e : j = k
        · subst e; simp at h2; subst h2; exact .inl ⟨rfl, h3, h4⟩
        · right
          refine ⟨o', by omega, ?_, h3, h4⟩
          have : j - k = (j - (k + 1)) + 1 := by omega
          rw [this] at h2; simpa using h2
      · rintro (⟨rfl, h3, h4⟩ | ⟨o', h1, h2, h3, h4⟩)
        · exact ⟨o, Nat.le_refl _, by simp, h3, h4⟩
        · refine ⟨o', by omega, ?_, h3, h4⟩
          have : j - k = (j - (k + 1)) + 1 := by omega
          rw [this]; simpa using h2
    rw [tail, ← ih]
    simp only [List.map_cons, readyM, infOf]
    cases hb : bit m k
    · simp only [cond_false]
      cases hd : Nat.beq (Nat.land (depM o.after.toList) m) (depM o.after.toList)
      · simp
      · simp
    · simp

theorem freeM_spec (i di li m : Nat) : ∀ (l : List Oper) (k : Nat), freeM i di li m k (l.map (infOf ops)) = true → ∀ j o, k ≤ j → l[j - k]? = some o → j ≠ i → bit m j = false → bit (depM o.after.toList) i = false →
    Nat.beq (Nat.land di (lookM (o.looksAt ops))) 0 = true ∧ Nat.beq (Nat.land di (dstM o.dst)) 0 = true ∧ Nat.beq (Nat.land (dstM o.dst) li) 0 = true
  | [], _, _, j, o, _, h, _, _, _ => by simp at h
  | x :: r, k, h, j, o, hk, hj, hne, hb, hd => by
    simp only [List.map_cons, freeM, infOf, Bool.and_eq_true] at h
    obtain ⟨h1, h2⟩ := h
    by_cases e : j = k
    · subst e
      simp at hj; subst hj
      simp only [beq_ne hne, hb, hd, cond_false, Bool.and_eq_true] at h1
      exact h1
    · refine freeM_spec i di li m r (k + 1) h2 j o (by omega) ?_ hne hb hd
      have : j - k = (j - (k + 1)) + 1 := by omega
      rw [this] at hj; simpa using hj

theorem nthI_map : ∀ (l : List Oper) (i : Nat) (o : Oper), l[i]? = some o → nthI (l.map (infOf ops)) i = infOf ops o
  | [], _, _, h => by simp at h
  | x :: r, 0, o, h => by simp at h; subst h; rfl
  | x :: r, i + 1, o, h => by simp at h; exact nthI_map r i o h

theorem apart_of {oi oj : Oper} (h1 : Nat.beq (Nat.land (dstM oi.dst) (lookM (oj.looksAt ops))) 0 = true) (h2 : Nat.beq (Nat.land (dstM oi.dst) (dstM oj.dst)) 0 = true) (h3 : Nat.beq (Nat.land (dstM oj.dst) (lookM (oi.looksAt ops))) 0 = true) : oi.apart ops oj = true := by
  unfold Oper.apart
  simp only [Bool.and_eq_true]
  constructor
  · cases hd : oi.dst with
    | none => rfl
    | some d =>
      rw [hd] at h1 h2
      simp only [Bool.and_eq_true, Bool.not_eq_true', bne_iff_ne, ne_eq]
      constructor
      · cases hc : (oj.looksAt ops).contains d
        · rfl
        · exact (land_zero h1 d (by unfold dstM; rw [one_spec]; simp) ((lookM_spec _ _).2 (by simpa using hc))).elim
      · intro he
        rw [he] at h2
        exact land_zero h2 d (by unfold dstM; rw [one_spec]; simp) (by unfold dstM; rw [one_spec]; simp)
  · cases hd : oj.dst with
    | none => rfl
    | some d =>
      rw [hd] at h3
      simp only [Bool.not_eq_true']
      cases hc : (oi.looksAt ops).contains d
      · rfl
      · exact (land_zero h3 d (by unfold dstM; rw [one_spec]; simp) ((lookM_spec _ _).2 (by simpa using hc))).elim

theorem okM_sound (hcl : ∀ (j : Nat) (o : Oper), ops[j]? = some o → ∀ e ∈ o.after, Region.binds .any e = true → e.on < ops.size) {inf : List (Nat × Nat × Nat)} (hinf : inf = ops.toList.map (infOf ops)) :
    ∀ (p : Plan) (top : Bool) (m : Nat) (ls : List Nat), mrel ops m ls → Plan.okM inf ops.size top p m ls.length = true → Plan.okP ops top p ls
  | .done, top, m, ls, hm, h => by
    have hr : ∀ j, j ∈ readyM m 0 inf ↔ j ∈ Region.ready .any ops (listedA ops ls) := fun j => by
      rw [hinf, readyM_spec, edge_in hcl hm]; simp
    simp only [Plan.okM, List.isEmpty_iff] at h
    show _ = []
    rw [List.eq_nil_iff_forall_not_mem]
    intro j hj
    rw [← hr, h] at hj; cases hj
  | .q i p, top, m, ls, hm, h => by
    have hr : ∀ j, j ∈ readyM m 0 inf ↔ j ∈ Region.ready .any ops (listedA ops ls) := fun j => by
      rw [hinf, readyM_spec, edge_in hcl hm]; simp
    simp only [Plan.okM, Bool.and_eq_true, memN_spec] at h
    obtain ⟨h1, h2, h3, h4⟩ := h
    refine ⟨by simpa using h1, (hr i).1 h2, fun oi hoi j oj hoj hne hun hno => ?_, okM_sound hcl hinf p true _ (i :: ls) (mrel_cons hm i) h4⟩
    have hj : j < ops.size := by
      rcases Nat.lt_or_ge j ops.size with h | h
      · exact h
      · simp [Array.getElem?_eq_none h] at hoj
    rw [hinf, nthI_map ops.toList i oi (by simpa using hoi)] at h3
    obtain ⟨g1, g2, g3⟩ := freeM_spec i _ _ m ops.toList 0 h3 j oj (Nat.zero_le _) (by simpa using hoj) hne
      (by
        cases hb : bit m j
        · rfl
        · rw [getD_tf (by rw [listedA_size]; exact hj), (hm j hj).1 hb] at hun; cases hun)
      (by
        cases hb : bit (depM oj.after.toList) i
        · rfl
        · obtain ⟨e, he, hbd, heq⟩ := (depM_spec _ _).1 hb
          exact (hno e (by simpa using he) hbd heq).elim)
    exact apart_of g1 g2 g3
  | .l i p, top, m, ls, hm, h => by
    have hr : ∀ j, j ∈ readyM m 0 inf ↔ j ∈ Region.ready .any ops (listedA ops ls) := fun j => by
      rw [hinf, readyM_spec, edge_in hcl hm]; simp
    simp only [Plan.okM, Bool.and_eq_true] at h
    obtain ⟨h1, h2, h4⟩ := h
    refine ⟨by simpa using h1, fun ht => ?_, okM_sound hcl hinf p true _ (i :: ls) (mrel_cons hm i) h4⟩
    subst ht
    simp only [Bool.not_true, Bool.false_or, Bool.and_eq_true, memN_spec, allN_spec] at h2
    exact ⟨(hr i).1 h2.1, fun j hj => Nat.eq_of_beq_eq_true (h2.2 j ((hr j).2 hj))⟩
  | .or p r, top, m, ls, hm, h => by
    have hr : ∀ j, j ∈ readyM m 0 inf ↔ j ∈ Region.ready .any ops (listedA ops ls) := fun j => by
      rw [hinf, readyM_spec, edge_in hcl hm]; simp
    simp only [Plan.okM, Bool.and_eq_true] at h
    obtain ⟨h1, h2, h3, h4⟩ := h
    refine ⟨by simpa using h1, fun ht => ?_, okM_sound hcl hinf p false _ ls hm h3, okM_sound hcl hinf r false _ ls hm h4⟩
    subst ht
    simp only [Bool.not_true, Bool.false_or, Bool.and_eq_true, Bool.not_eq_true', List.isEmpty_eq_false_iff, allN_spec, memN_spec] at h2
    refine ⟨fun h0 => ?_, fun j hj => h2.2 j ((hr j).2 hj)⟩
    obtain ⟨x, hx⟩ := List.exists_mem_of_ne_nil _ h2.1
    rw [hr, h0] at hx; cases hx

theorem wpOp_normal {K : Act → WP} {i : Nat} {a : Act} {w : World} (h : wpOp P ops (fun e a w => e = .normal ∧ Q e a w) i K a w) : wpOp P ops Q i K a w := by
  unfold wpOp at *
  split
  · rename_i ho; simpa [ho] using h
  · rename_i o ho
    simp only [ho] at h
    split
    · rename_i hw
      rw [if_pos hw] at h
      rcases h with h | h
      · refine .inl ?_
        unfold Oper.wp at *
        generalize (execOp a.eval o).run P w = r at *
        cases r with
        | ok x w' =>
          cases x <;> simp only [Oper.upon] at h ⊢ <;> first
            | exact h
            | (refine Calls.mono h fun e w'' he => ?_
               cases e with
               | returned v => exact he
               | panicked c => exact absurd he.1 (by simp)
               | outgrown => obtain ⟨_, _, he, _⟩ := he; cases he)
        | halt x w' =>
          cases x <;> simp only [Oper.upon] at h ⊢
          exact absurd h.1 (by simp)
      · obtain ⟨_, _, _, he, _⟩ := h
        cases he
    · rename_i hw
      rw [if_neg hw] at h
      exact h

theorem wpAny_normal : ∀ (fuel : Nat) (listed : Array Bool) (a : Act) (w : World), wpAny P .any ops (fun e a w => e = .normal ∧ Q e a w) fuel listed a w → wpAny P .any ops Q fuel listed a w
  | 0, _, _, _, h => ⟨h.1, h.2.2⟩
  | fuel + 1, _, _, _, h => ⟨fun h0 => (h.1 h0).2, fun i hi => wpOp_mono (fun a' w' h' => wpAny_normal fuel _ a' w' h') (wpOp_normal (h.2 i hi))⟩

end

/-! ### The whole -/
theorem keeps_of_dsts {kill : Nat} {ops : Array Oper} (h : (ops.toList.all fun o => match o.dst with | none => true | some d => inL d kill) = true) : ∀ o ∈ ops.toList, dstKill kill o := by
  intro o ho d hd
  have := List.all_eq_true.1 h o ho
  rw [hd] at this
  exact this

/-- The exits that a walk goes on from. -/
def Exit.go : Exit → Prop
  | .normal | .ret | .exit _ => True
  | _ => False

theorem closed_nil (ops : Array Oper) : Closed ops (listedA ops []) := by
  intro j o _ h
  exfalso
  unfold listedA at h
  simp only [List.foldr_nil, Array.getD_eq_getD_getElem?] at h
  rcases Nat.lt_or_ge j ops.size with h' | h'
  · simp [h'] at h
  · simp [h'] at h

theorem E_sound {P : Program} (hm : P.follows .mixedOrders = true) (n : Nat) : ∀ (c : Code) (A : Ann), chk P n c A = true →
    ∀ (K : Exit → Fr → WP) (Q : Exit → Act → WP) (fr : Fr) (a : Act) (w : World), rel n a fr →
    (∀ e fr' a' w', rel n a' fr' → (∀ kill, dstsIn kill c = true → keeps kill fr fr') → K e fr' w' → Q e a' w') →
    E P c A K fr w → c.wp P Q a w := by
  intro c
  induction c with
  | skip => intro A _ K Q fr a w hr hK h; exact wp_skip (hK _ _ _ _ hr (fun _ _ => keeps.refl _ _) (by cases A <;> exact h))
  | ret => intro A _ K Q fr a w hr hK h; exact wp_ret (hK _ _ _ _ hr (fun _ _ => keeps.refl _ _) (by cases A <;> exact h))
  | exit id => intro A _ K Q fr a w hr hK h; exact wp_exit (hK _ _ _ _ hr (fun _ _ => keeps.refl _ _) (by cases A <;> exact h))
  | label l => intro A _ K Q fr a w hr hK h; exact wp_label (hK _ _ _ _ hr (fun _ _ => keeps.refl _ _) (by cases A <;> exact h))
  | goto l => intro A hc; cases A <;> simp [chk] at hc
  | refuse s => intro A hc K Q fr a w hr hK h; exact (by cases A <;> exact h : False).elim
  | scope x ih =>
    intro A hc K Q fr a w hr hK h
    have hc : chk P n x A = true := by cases A <;> exact hc
    have h : E P x A (scopeK K) fr w := by cases A <;> exact h
    refine wp_scope_straight (ih A hc _ _ fr a w hr (fun e fr' a' w' hr' hk hK' => ?_) h)
    cases e <;> first
      | exact hK _ fr' a' w' hr' hk hK'
      | exact hK'.elim
  | rangeFunc f ps a b iha ihb => intro A hc; cases A <;> simp [chk] at hc
  | region id ops draw =>
    intro A hc K Q fr a w hr hK h
    cases draw with
    | false =>
      have hd : ∀ o ∈ ops.toList, dstOk n o := dstOk_of (by cases A <;> exact hc)
      have h' : Eops P ops (fun fr => K .normal fr) ops.toList [] fr w := by cases A <;> exact h
      have := Eops_sound (Q := Q) ops.toList 0 (by simp) hd [] fr a w hr (fun _ _ h => by cases h) (fun fr' a' w' hr' hk hK' => hK .normal fr' a' w' hr' (fun kill hkill => hk kill (keeps_of_dsts hkill)) hK') h'
      refine wp_region ?_
      rw [List.range_eq_range']
      simpa using this
    | true =>
      cases A <;> try (simp [chk] at hc; done)
      rename_i inf p
      simp only [chk, Bool.and_eq_true] at hc
      obtain ⟨⟨⟨⟨hd, hsel⟩, hed⟩, hin⟩, hok⟩ := hc
      have hed : ∀ (j : Nat) (o : Oper), ops[j]? = some o → ∀ e ∈ o.after, Region.binds .any e = true → e.on < ops.size := fun j o ho e he hb => by
        have := List.all_eq_true.1 hed o (by simpa using Array.mem_of_getElem? ho)
        have := List.all_eq_true.1 this e (by simpa using he)
        simpa [hb] using this
      have hok := okM_sound hed (infOk_spec _ _ hin) p true 0 [] mrel_nil hok
      refine wp_region_any hm (wpAny_normal _ _ _ _ ?_)
      have hcl : Closed ops (listedA ops []) := closed_nil ops
      exact wpAny_of_wpR _ _ _ _ ((Edrw_sound (Q := fun e a w => e = .normal ∧ Q e a w) hsel (fun c a w h => by cases h.1) (dstOk_of hd) p true [] [] [] fr a w.drew ops.size (by simp) hcl hok hr (fun _ _ h => by cases h)
        (fun fr' a' w' hr' hk hK' => ⟨rfl, hK .normal fr' a' w' hr' (fun kill hkill => hk kill (keeps_of_dsts hkill)) hK'⟩) (Dr.out h)).1 rfl)
  | seq x y ihx ihy =>
    intro A hc K Q fr a w hr hK h
    cases A <;> try (simp [chk] at hc; done)
    case s A B =>
      simp only [chk, Bool.and_eq_true] at hc
      refine wp_seq (ihx A hc.1 _ _ fr a w hr (fun e fr' a' w' hr' hk hK' => ?_) h)
      have other : ∀ e, (∀ kill, dstsIn kill x = true → keeps kill fr fr') → K e fr' w' → Q e a' w' := fun e hk hK' =>
        hK e fr' a' w' hr' (fun kill hkill => by simp only [dstsIn, Bool.and_eq_true] at hkill; exact hk kill hkill.1) hK'
      cases e <;> first
        | exact other _ hk hK'
        | skip
      exact ihy B hc.2 _ _ fr' a' w' hr' (fun e fr'' a'' w'' hr'' hk' hK'' => hK e fr'' a'' w'' hr'' (fun kill hkill => by simp only [dstsIn, Bool.and_eq_true] at hkill; exact (hk kill hkill.1).trans (hk' kill hkill.2)) hK'') hK'
    case j ss kl A B =>
      simp only [chk, Bool.and_eq_true] at hc
      refine wp_seq (ihx A hc.1.1 _ _ fr a w hr (fun e fr' a' w' hr' hk hK' => ?_) (Jn.out h))
      have other : ∀ e, (∀ kill, dstsIn kill x = true → keeps kill fr fr') → K e fr' w' → Q e a' w' := fun e hk hK' =>
        hK e fr' a' w' hr' (fun kill hkill => by simp only [dstsIn, Bool.and_eq_true] at hkill; exact hk kill hkill.1) hK'
      cases e <;> first
        | exact other _ hk hK'
        | skip
      have hK' : ∀ junk, E P y B K (mk ss (tup fr' ss) kl fr junk) w' := Jk.out hK'
      have h1 := hK' fr'
      rw [mk_self ss kl fr fr' (hk kl hc.2)] at h1
      exact ihy B hc.1.2 _ _ fr' a' w' hr' (fun e fr'' a'' w'' hr'' hk' hK'' => hK e fr'' a'' w'' hr'' (fun kill hkill => by simp only [dstsIn, Bool.and_eq_true] at hkill; exact (hk kill hkill.1).trans (hk' kill hkill.2)) hK'') h1
  | cond c x y ihx ihy =>
    intro A hc K Q fr a w hr hK h
    cases A <;> try (simp [chk] at hc; done)
    rename_i A B
    simp only [chk, Bool.and_eq_true] at hc
    have h : If (opv fr c) (E P x A K fr) (E P y B K fr) w := h
    have h := h.out
    unfold ifOf at h
    rw [← hr.eval] at h
    split at h
    · rename_i hv
      exact wp_cond_true hv (ihx A hc.1 _ _ fr a w hr (fun e fr' a' w' hr' hk hK' => hK e fr' a' w' hr' (fun kill hkill => by simp only [dstsIn, Bool.and_eq_true] at hkill; exact hk kill hkill.1) hK') h)
    · rename_i hv
      exact wp_cond_false hv (ihy B hc.2 _ _ fr a w hr (fun e fr' a' w' hr' hk hK' => hK e fr' a' w' hr' (fun kill hkill => by simp only [dstsIn, Bool.and_eq_true] at hkill; exact hk kill hkill.2) hK') h)
    · exact h.elim
  | block id x ih =>
    intro A hc K Q fr a w hr hK h
    have hc : chk P n x A = true := by cases A <;> exact hc
    have h : E P x A (blockK id K) fr w := by cases A <;> exact h
    refine wp_block (ih A hc _ _ fr a w hr (fun e fr' a' w' hr' hk hK' => ?_) h)
    cases e <;> try exact hK _ fr' a' w' hr' hk hK'
    rename_i id'
    by_cases hid : id' = id
    · subst hid
      simp only [Exit.inBlock, if_true]
      have hK' : K .normal fr' w' := by simpa [blockK] using hK'
      exact hK _ fr' a' w' hr' hk hK'
    · simp only [Exit.inBlock, if_neg hid]
      have hK' : K (.exit id') fr' w' := by simpa [blockK, beq_ne hid] using hK'
      exact hK _ fr' a' w' hr' hk hK'
  | loop x ih =>
    intro A hc K Q fr a w hr hK h
    cases A <;> try (simp [chk] at hc; done)
    rename_i ss kl A
    simp only [chk, Bool.and_eq_true] at hc
    obtain ⟨I, μ, h0, hround⟩ := Lp.out h
    refine wp_loop (fun a w => ∃ fr', rel n a fr' ∧ keeps kl fr fr' ∧ (∀ kill, dstsIn kill x = true → keeps kill fr fr') ∧ I (tup fr' ss) w) (fun a w => μ (tup (fun i => a.tmps.getD i undef) ss) w) ⟨fr, hr, keeps.refl _ _, fun _ _ => keeps.refl _ _, h0⟩ ?_
    rintro a w ⟨fr', hr', hk', hka, hI⟩
    have h1 := (hround _ w hI).out fr'
    rw [mk_self ss kl fr fr' hk'] at h1
    have hfr : ∀ {a : Act} {fr : Fr}, rel n a fr → (fun i => a.tmps.getD i undef) = fr := fun h => funext h.2.2
    refine ih A hc.1 _ _ fr' a w hr' (fun e fr'' a'' w'' hr'' hk'' hK'' => ?_) h1
    have other : ∀ e, K e fr'' w'' → Q e a'' w'' := fun e hK'' =>
      hK e fr'' a'' w'' hr'' (fun kill hkill => (hka kill hkill).trans (hk'' kill hkill)) hK''
    cases e <;> first
      | exact other _ hK''
      | skip
    obtain ⟨hI'', hlt⟩ := hK''
    refine ⟨⟨fr'', hr'', hk'.trans (hk'' kl hc.2), fun kill hkill => (hka kill hkill).trans (hk'' kill hkill), hI''⟩, ?_⟩
    rw [hfr hr'', hfr hr']
    exact hlt

/-! ### A function -/
/-- What a call is asked: it returns, and ... -/
def ofK (K : Value → WP) : Ending → WP := fun e w => match e with
  | .returned v => K v w
  | _ => False

/-- A result that lies in memory. -/
structure RetC (P : Program) (t : TypeId) (x : Value) (K : Value → WP) (w : World) : Prop where
  out : ∃ v, (do loadVar t (← asAddr x) : Sem Value).run P w = .ok v w ∧ K v w

def retK (P : Program) (K : Value → WP) (rs : Array ResultVar) (fr : Fr) : WP :=
  match rs.toList with
  | [] => K (.tuple #[])
  | [.tmp x] => K (fr x)
  | [.tmp x, .tmp y] => K (.tuple #[fr x, fr y])
  | [.tmp x, .tmp y, .tmp z] => K (.tuple #[fr x, fr y, fr z])
  | [.cell x t] => RetC P t (fr x) K
  | [.cell x t, .tmp y] => RetC P t (fr x) fun v => K (.tuple #[v, fr y])
  | _ => fun _ => False

def topK (P : Program) (K : Value → WP) (rs : Array ResultVar) : Exit → Fr → WP
  | .normal, fr | .ret, fr => retK P K rs fr
  | _, _ => fun _ => False

theorem calls_of_E {P : Program} (hm : P.follows .mixedOrders = true) {f : FuncId} {fn : Func} {c : Code} (n : Nat) (A : Ann) (args : Array Value) (w : World) (K : Value → WP)
    (hf : P.funcs[f]? = some fn) (hb : fn.body = some c) (hn : Nat.beq fn.ntmps n = true) (hs : Nat.ble args.size n = true) (hc : chk P n c A = true)
    (h : E P c A (topK P K fn.results) (fun i => args.getD i undef) w) : Calls P f args w (ofK K) := by
  have hn : fn.ntmps = n := Nat.eq_of_beq_eq_true hn
  have hs : args.size ≤ n := Nat.le_of_ble_eq_true hs
  refine calls_of_wp hf hb (E_sound hm n c A hc _ _ _ _ w ⟨?_, rfl, ?_⟩ ?_ h)
  · simp [hn]; omega
  · intro i
    simp only [Array.getD_eq_getD_getElem?, Array.getElem?_append, Array.getElem?_replicate]
    split
    · rfl
    · split
      · rename_i h1 _
        simp [Array.getElem?_eq_none (by omega : args.size ≤ i)]
      · rename_i h1 _
        simp [Array.getElem?_eq_none (by omega : args.size ≤ i)]
  · intro e fr' a' w' hr' _ hK
    have main : retK P K fn.results fr' w' → a'.defers = [] ∧ ∃ v, (results fn a'.tmps).run P w' = .ok v w' ∧ ofK K (.returned v) w' := fun h => by
      refine ⟨hr'.2.1, ?_⟩
      obtain ⟨rs, hrs⟩ : ∃ rs, fn.results = rs := ⟨_, rfl⟩
      unfold results
      rw [hrs] at h ⊢
      obtain ⟨l⟩ := rs
      have g := hr'.2.2
      rcases l with _ | ⟨x0, _ | ⟨x1, _ | ⟨x2, _ | ⟨x3, l⟩⟩⟩⟩
      · exact ⟨_, by simp, h⟩
      · cases x0 with
        | tmp x => exact ⟨_, by simp [g], h⟩
        | cell x t =>
          obtain ⟨v, hv, h⟩ := RetC.out h
          refine ⟨v, ?_, h⟩
          rw [← g] at hv
          simp only [Sem.run_bind, Array.getD_eq_getD_getElem?] at hv
          simp [Sem.run_bind, hv]
      · cases x0 with
        | tmp x =>
          cases x1 with
          | tmp y => exact ⟨_, by simp [g], h⟩
          | cell y t => exact h.elim
        | cell x t =>
          cases x1 with
          | tmp y =>
            obtain ⟨v, hv, h⟩ := RetC.out h
            refine ⟨_, ?_, h⟩
            rw [← g] at hv
            rw [← g]
            simp only [Sem.run_bind, Array.getD_eq_getD_getElem?] at hv
            simp only [List.mapM_toArray, Sem.run_bind]
            cases hr1 : Sem.run P (asAddr (a'.tmps[x]?.getD undef)) w' with
            | halt hh ww => rw [hr1] at hv; simp at hv
            | ok aa ww =>
              rw [hr1] at hv
              simp only [Result.andThen_ok] at hv
              simp [Sem.run_bind, Array.getD_eq_getD_getElem?, hr1, hv]
          | cell y t => exact h.elim
      · cases x0 with
        | tmp x =>
          cases x1 with
          | tmp y =>
            cases x2 with
            | tmp z => exact ⟨_, by simp [g], h⟩
            | cell y t => exact h.elim
          | cell y t => cases x2 <;> exact h.elim
        | cell x t => cases x1 <;> cases x2 <;> exact h.elim
      · cases x0 <;> cases x1 <;> cases x2 <;> cases x3 <;> exact h.elim
    cases e <;> first
      | exact main hK
      | exact hK.elim

/-- The call returns, and of what it returns and leaves, K. -/
def Runs (P : Program) (f : FuncId) (args : List Value) (K : Value → WP) (w : World) : Prop := Calls P f ⟨args⟩ w (ofK K)

theorem runs_of_E {P : Program} (hm : P.follows .mixedOrders = true) {f : FuncId} {fn : Func} {c : Code} (n : Nat) (A : Ann) (args : List Value) (w : World) (K : Value → WP)
    (hf : P.funcs[f]? = some fn) (hb : fn.body = some c) (hn : Nat.beq fn.ntmps n = true) (hs : Nat.ble args.length n = true) (hc : chk P n c A = true)
    (h : E P c A (topK P K fn.results) (fun i => (args[i]?).getD undef) w) : Runs P f args K w :=
  calls_of_E hm n A ⟨args⟩ w K hf hb hn (by simpa using hs) hc (by
    have : (fun i => (⟨args⟩ : Array Value).getD i undef) = fun i => (args[i]?).getD undef := by funext i; simp [Array.getD_eq_getD_getElem?]
    rw [this]; exact h)

end Go.Sk
end

section
/-
  The state of a walk: what is frozen, what is owned; the rules of the walk.
-/
set_option linter.unusedVariables false
set_option linter.unusedSimpArgs false
namespace Go.Sk
open Go Go.RowKit

abbrev Hp := Nat → Option Obj
def World.hp (w : World) : Hp := fun k => w.heap[k]?
/-- All that the frozen part says of the heap. -/
def Hle (h h' : Hp) : Prop := ∀ k o, h k = some o → h' k = some o
theorem Hle.refl (h : Hp) : Hle h h := fun _ _ e => e
theorem Hle.trans {a b c : Hp} (h : Hle a b) (h' : Hle b c) : Hle a c := fun k o e => h' k o (h k o e)

abbrev ptr (b o : Nat) : Value := .pointer (some ⟨b, o, none⟩)
abbrev I (n : Int) : Value := .int .i64 n

/-- What a walk owns: a block of cells, known to the last; a slice of cells, with what lies behind it left open; a map. -/
inductive Itm where
  | blk (b : Nat) (cs : List Value) (e : TypeId)
  | sl (v : Value) (e : TypeId) (sz : Nat) (xs : List Value)
  | mp (r : Nat) (es : List MapEntry) (clock : Nat)

def Itm.fp : Itm → Option Nat
  | .blk b _ _ => some b
  | .sl (.slice (some a) _ _) _ _ _ => some a.block
  | .sl _ _ _ _ => none
  | .mp r _ _ => some r

/-- An owned slice: nil and empty; or it lies in a block, its cells the listed ones, and the block has room to its capacity. -/
def slOk (v : Value) (e : TypeId) (sz : Nat) (xs : List Value) (h : Hp) : Prop :=
  (v = .slice none 0 0 ∧ xs = []) ∨
  ∃ b off n cap pre post, v = .slice (some ⟨b, off, none⟩) n cap ∧ h b = some (.cells (pre ++ xs ++ post).toArray e (0, 0)) ∧
    pre.length = off ∧ xs.length = n * sz ∧ n ≤ cap ∧ (cap * sz ≤ n * sz + post.length)

def Itm.ok (h : Hp) : Itm → Prop
  | .blk b cs e => h b = some (.cells cs.toArray e (0, 0))
  | .sl v e sz xs => slOk v e sz xs h
  | .mp r es clock => h r = some (.map es.toArray clock)

theorem Itm.ok_congr {h h' : Hp} {it : Itm} (hk : it.ok h) (he : ∀ b, it.fp = some b → h' b = h b) : it.ok h' := by
  cases it with
  | blk b cs e => exact (he b rfl).trans hk
  | mp r es c => exact (he r rfl).trans hk
  | sl v e sz xs =>
    rcases hk with hk | ⟨b, off, n, cap, pre, post, rfl, h1, h2⟩
    · exact .inl hk
    · exact .inr ⟨b, off, n, cap, pre, post, rfl, (he b rfl).trans h1, h2⟩

theorem Itm.fp_some {h : Hp} {it : Itm} (hk : it.ok h) {b : Nat} (hb : it.fp = some b) : ∃ o, h b = some o := by
  cases it with
  | blk b' cs e => cases hb; exact ⟨_, hk⟩
  | mp r es c => cases hb; exact ⟨_, hk⟩
  | sl v e sz xs =>
    rcases hk with ⟨rfl, _⟩ | ⟨b', off, n, cap, pre, post, rfl, h1, h2⟩
    · cases hb
    · cases hb; exact ⟨_, h1⟩

def apartI (a b : Itm) : Prop := ∀ x, a.fp = some x → b.fp ≠ some x

/-- Whether a walk keeps count of the draws: a flag that the prover sets; where it is unset nothing is said of them. -/
class Mode where
  D : Prop
instance (priority := 10) Mode.off : Mode := ⟨False⟩
structure St [M : Mode] (w0 : World) (h0 h : Hp) (L : List Itm) (w : World) : Prop where
  below : Below w0.heap.size w0 w
  up : Hle h0 h
  old : ∀ k, k < w0.heap.size → h k = h0 k
  frozen : Hle h (World.hp w)
  items : ∀ it ∈ L, it.ok (World.hp w) ∧ ∀ b, it.fp = some b → w0.heap.size ≤ b ∧ h b = none
  apart : L.Pairwise apartI
  drawn : M.D → w0.drawn ≤ w.drawn

variable {M : Mode}
structure G (S : WP) (p : WP) : Prop where
  run : ∀ w, S w → p w
abbrev Gs [M : Mode] (w0 : World) (h0 h : Hp) (L : List Itm) (p : WP) : Prop := G (St w0 h0 h L) p

theorem St.lt {w0 : World} {h0 h : Hp} {L : List Itm} {w : World} (s : St w0 h0 h L w) {it : Itm} (hi : it ∈ L) {b : Nat} (hb : it.fp = some b) : b < w.heap.size := by
  obtain ⟨o, ho⟩ := Itm.fp_some (s.items it hi).1 hb
  unfold World.hp at ho
  rcases Nat.lt_or_ge b w.heap.size with h | h
  · exact h
  · simp [Array.getElem?_eq_none h] at ho

theorem St.drew {w0 : World} {h0 h : Hp} {L : List Itm} {w : World} (s : St w0 h0 h L w) : St w0 h0 h L w.drew :=
  ⟨s.below.drew, s.up, s.old, s.frozen, s.items, s.apart, fun d => Nat.le_succ_of_le (s.drawn d)⟩

theorem St.sub {w0 : World} {h0 h : Hp} {L L' : List Itm} {w : World} (s : St w0 h0 h L w) (hs : L'.Sublist L) : St w0 h0 h L' w :=
  ⟨s.below, s.up, s.old, s.frozen, fun it hi => s.items it (hs.subset hi), s.apart.sublist hs, s.drawn⟩

theorem St.perm {w0 : World} {h0 h : Hp} {L L' : List Itm} {w : World} (s : St w0 h0 h L w) (hp : L.Perm L') : St w0 h0 h L' w :=
  ⟨s.below, s.up, s.old, s.frozen, fun it hi => s.items it (hp.mem_iff.2 hi), hp.pairwise s.apart (fun {a b} hab x hb ha => hab x ha hb), s.drawn⟩

/-- A world in which only fresh blocks are new. -/
theorem St.grow {w0 : World} {h0 h : Hp} {L : List Itm} {w w' : World} (s : St w0 h0 h L w) (hb : Below w.heap.size w w') {h' : Hp} (hle : Hle h h') (hold : ∀ k, k < w.heap.size → h' k = h k) (hfr : Hle h' (World.hp w')) (hd : M.D → w.drawn ≤ w'.drawn) : St w0 h0 h' L w' := by
  have hsz := s.below.size
  refine ⟨s.below.trans (hb.mono hsz), s.up.trans hle, fun k hk => (hold k (by omega)).trans (s.old k hk), hfr, fun it hi => ⟨?_, fun b hf => ?_⟩, s.apart, fun d => Nat.le_trans (s.drawn d) (hd d)⟩
  · exact Itm.ok_congr (s.items it hi).1 fun b hf => hb.block b (s.lt hi hf)
  · obtain ⟨h1, h2⟩ := (s.items it hi).2 b hf
    exact ⟨h1, (hold b (s.lt hi hf)).trans h2⟩

theorem hp_alloc_old (w : World) (o : Obj) (k : Nat) (h : k < w.heap.size) : World.hp (w.alloc o) k = World.hp w k := Below.heap_alloc w o k h
theorem hp_alloc_new (w : World) (o : Obj) : World.hp (w.alloc o) w.heap.size = some o := by
  unfold World.hp World.alloc
  simp

theorem Hle.lt {h : Hp} {w : World} (hh : Hle h (World.hp w)) {k : Nat} {o : Obj} (e : h k = some o) : k < w.heap.size := by
  have := hh k o e
  unfold World.hp at this
  rcases Nat.lt_or_ge k w.heap.size with h | h
  · exact h
  · simp [Array.getElem?_eq_none h] at this

theorem Below.alloc_self (w : World) (o : Obj) : Below w.heap.size w (w.alloc o) := (Below.refl _ _).alloc (Nat.le_refl _) o

/-- A new block becomes an item. -/
theorem St.alloc {w0 : World} {h0 h : Hp} {L : List Itm} {w : World} (s : St w0 h0 h L w) (o : Obj) (it : Itm) (hok : ∀ hp : Hp, hp w.heap.size = some o → it.ok hp) (hfp : it.fp = some w.heap.size) : St w0 h0 h (it :: L) (w.alloc o) := by
  have hg := s.grow (Below.alloc_self w o) (Hle.refl h) (fun _ _ => rfl) (fun k o' e => by rw [hp_alloc_old w o k (Hle.lt s.frozen e)]; exact s.frozen k o' e) (fun _ => Nat.le_refl _)
  refine ⟨hg.below, hg.up, hg.old, hg.frozen, ?_, ?_, hg.drawn⟩
  · intro it' hi
    rcases List.mem_cons.1 hi with rfl | hi
    · refine ⟨hok _ (hp_alloc_new w o), fun b hb => ?_⟩
      rw [hfp] at hb; cases hb
      refine ⟨s.below.size, ?_⟩
      cases hn : h w.heap.size with
      | none => rfl
      | some o' => exact absurd (Hle.lt s.frozen hn) (Nat.lt_irrefl _)
    · exact hg.items it' hi
  · refine List.pairwise_cons.2 ⟨fun it' hi x hx hx' => ?_, s.apart⟩
    rw [hfp] at hx; cases hx
    exact absurd (s.lt hi hx') (Nat.lt_irrefl _)

/-- One item's block is written over. -/
theorem St.write {w0 : World} {h0 h : Hp} {L : List Itm} {it it' : Itm} {w w' : World} (s : St w0 h0 h (it :: L) w) {b : Nat} (hf : it.fp = some b) (hf' : it'.fp = some b)
    (hos : w'.os = w.os) (htape : w'.tape = w.tape) (hout : w'.output = w.output) (hsize : w'.heap.size = w.heap.size) (hb : ∀ k, k ≠ b → w'.heap[k]? = w.heap[k]?) (hok : it'.ok (World.hp w')) (hd : M.D → w.drawn ≤ w'.drawn := by exact fun _ => Nat.le_refl _) : St w0 h0 h (it' :: L) w' := by
  have hi := (s.items it (by simp)).2 b hf
  have ha := List.pairwise_cons.1 s.apart
  refine ⟨⟨hos.trans s.below.os, htape.trans s.below.tape, hout.trans s.below.output, by have := s.below.size; omega, fun k hk => (hb k (by omega)).trans (s.below.block k hk)⟩, s.up, s.old, fun k o e => ?_, ?_, ?_, fun d => Nat.le_trans (s.drawn d) (hd d)⟩
  · have : k ≠ b := fun e' => by subst e'; rw [hi.2] at e; cases e
    exact (hb k this).trans (s.frozen k o e)
  · intro x hx
    rcases List.mem_cons.1 hx with rfl | hx
    · exact ⟨hok, fun b' hb' => by rw [hf'] at hb'; cases hb'; exact hi⟩
    · have hxo := s.items x (by simp [hx])
      refine ⟨Itm.ok_congr hxo.1 fun c hc => hb c fun e => ?_, hxo.2⟩
      subst e
      exact ha.1 x hx c hf hc
  · refine List.pairwise_cons.2 ⟨fun x hx y hy => ?_, ha.2⟩
    rw [hf'] at hy; cases hy
    exact ha.1 x hx b hf

/-! ### Finding and replacing an item -/
class Has (L : List Itm) (it : Itm) : Prop where
  mem : it ∈ L
instance (priority := 2000) Has.here {it : Itm} {L : List Itm} : Has (it :: L) it := ⟨by simp⟩
instance Has.there {x it : Itm} {L : List Itm} [h : Has L it] : Has (x :: L) it := ⟨by simp [h.mem]⟩

/-- 'it' taken out of L leaves R. -/
class Take (L : List Itm) (it : Itm) (R : outParam (List Itm)) : Prop where
  perm : L.Perm (it :: R)
instance (priority := 2000) Take.here {it : Itm} {L : List Itm} : Take (it :: L) it L := ⟨.refl _⟩
instance Take.there {x it : Itm} {L R : List Itm} [h : Take L it R] : Take (x :: L) it (x :: R) := ⟨(h.perm.cons x).trans (.swap it x R)⟩

/-- The block b, what it holds. -/
class Blk (L : List Itm) (b : Nat) (cs : outParam (List Value)) (e : outParam TypeId) : Prop where
  mem : Itm.blk b cs e ∈ L
instance (priority := 2000) Blk.here {b : Nat} {cs : List Value} {e : TypeId} {L : List Itm} : Blk (.blk b cs e :: L) b cs e := ⟨by simp⟩
instance Blk.there {x : Itm} {b : Nat} {cs : List Value} {e : TypeId} {L : List Itm} [h : Blk L b cs e] : Blk (x :: L) b cs e := ⟨by simp [h.mem]⟩
class TakeB (L : List Itm) (b : Nat) (cs : outParam (List Value)) (e : outParam TypeId) (R : outParam (List Itm)) : Prop where
  perm : L.Perm (.blk b cs e :: R)
instance (priority := 2000) TakeB.here {b : Nat} {cs : List Value} {e : TypeId} {L : List Itm} : TakeB (.blk b cs e :: L) b cs e L := ⟨.refl _⟩
instance TakeB.there {x : Itm} {b : Nat} {cs : List Value} {e : TypeId} {L R : List Itm} [h : TakeB L b cs e R] : TakeB (x :: L) b cs e (x :: R) := ⟨(h.perm.cons x).trans (.swap _ x R)⟩
/-- An owned slice, by its value. -/
class Sl (L : List Itm) (v : Value) (e : outParam TypeId) (sz : outParam Nat) (xs : outParam (List Value)) : Prop where
  mem : Itm.sl v e sz xs ∈ L
instance (priority := 2000) Sl.here {v : Value} {e : TypeId} {sz : Nat} {xs : List Value} {L : List Itm} : Sl (.sl v e sz xs :: L) v e sz xs := ⟨by simp⟩
instance Sl.there {x : Itm} {v : Value} {e : TypeId} {sz : Nat} {xs : List Value} {L : List Itm} [h : Sl L v e sz xs] : Sl (x :: L) v e sz xs := ⟨by simp [h.mem]⟩
class TakeS (L : List Itm) (v : Value) (e : outParam TypeId) (sz : outParam Nat) (xs : outParam (List Value)) (R : outParam (List Itm)) : Prop where
  perm : L.Perm (.sl v e sz xs :: R)
instance (priority := 2000) TakeS.here {v : Value} {e : TypeId} {sz : Nat} {xs : List Value} {L : List Itm} : TakeS (.sl v e sz xs :: L) v e sz xs L := ⟨.refl _⟩
instance TakeS.there {x : Itm} {v : Value} {e : TypeId} {sz : Nat} {xs : List Value} {L R : List Itm} [h : TakeS L v e sz xs R] : TakeS (x :: L) v e sz xs (x :: R) := ⟨(h.perm.cons x).trans (.swap _ x R)⟩

/-! ### Operations that only yield a value -/
class Yd (P : Program) (S : WP) (s : Sem Next) (v : outParam Value) : Prop where
  run : ∀ w, S w → s.run P w = .ok (.value v) w

section
variable {P : Program} {S : WP} {K : Value → WP} {v : Value} {s : Sem Next}

theorem Do.of {w : World} {r : Result Next} (hr : s.run P w = r) (h : Upon P K r) : Do P s K w := ⟨by rw [hr]; exact h⟩
theorem G.step [hy : Yd P S s v] (h : G S (K v)) : G S (Do P s K) := ⟨fun w hw => Do.of (hy.run w hw) (h.run w hw)⟩
theorem G.mono {S S' : WP} {p : WP} (h : G S' p) (hs : ∀ w, S w → S' w) : G S p := ⟨fun w hw => h.run w (hs w hw)⟩
theorem G.post {p q : WP} (h : G S p) (hs : ∀ w, p w → q w) : G S q := ⟨fun w hw => hs w (h.run w hw)⟩
theorem G.pull {p : Prop} {X : WP} (hp : ∀ w, S w → p) (h : p → G S X) : G S X := ⟨fun w hw => (h (hp w hw)).run w hw⟩

theorem G.ifb {c : Bool} {X Y : WP} (h1 : c = true → G S X) (h2 : c = false → G S Y) : G S (If (.bool c) X Y) := ⟨fun w hw => ⟨by
  cases c
  · exact (h2 rfl).run w hw
  · exact (h1 rfl).run w hw⟩⟩
theorem G.ifd {p : Prop} {X Y : WP} [d : Decidable p] (h1 : p → G S X) (h2 : ¬ p → G S Y) : G S (If (.bool (decide p)) X Y) := G.ifb (fun h => h1 (of_decide_eq_true h)) (fun h => h2 (of_decide_eq_false h))
theorem G.ift {X Y : WP} (h1 : G S X) : G S (If (.bool true) X Y) := ⟨fun w hw => ⟨h1.run w hw⟩⟩
theorem G.iff {X Y : WP} (h1 : G S Y) : G S (If (.bool false) X Y) := ⟨fun w hw => ⟨h1.run w hw⟩⟩
theorem G.gdbt {c : Bool} {X Y : WP} (h1 : c = true → G S X) (h2 : c = false → G S Y) : G S (Gd (.bool c) true X Y) := ⟨fun w hw => ⟨by
  cases c
  · exact (h2 rfl).run w hw
  · exact (h1 rfl).run w hw⟩⟩
theorem G.gdbf {c : Bool} {X Y : WP} (h1 : c = true → G S Y) (h2 : c = false → G S X) : G S (Gd (.bool c) false X Y) := ⟨fun w hw => ⟨by
  cases c
  · exact (h2 rfl).run w hw
  · exact (h1 rfl).run w hw⟩⟩
theorem G.gddt {p : Prop} {X Y : WP} [d : Decidable p] (h1 : p → G S X) (h2 : ¬ p → G S Y) : G S (Gd (.bool (decide p)) true X Y) := G.gdbt (fun h => h1 (of_decide_eq_true h)) (fun h => h2 (of_decide_eq_false h))
theorem G.gddf {p : Prop} {X Y : WP} [d : Decidable p] (h1 : p → G S Y) (h2 : ¬ p → G S X) : G S (Gd (.bool (decide p)) false X Y) := G.gdbf (fun h => h1 (of_decide_eq_true h)) (fun h => h2 (of_decide_eq_false h))
theorem G.gdtt {X Y : WP} (h1 : G S X) : G S (Gd (.bool true) true X Y) := ⟨fun w hw => ⟨h1.run w hw⟩⟩
theorem G.gdff {X Y : WP} (h1 : G S X) : G S (Gd (.bool false) false X Y) := ⟨fun w hw => ⟨h1.run w hw⟩⟩
theorem G.gdtf {X Y : WP} (h1 : G S Y) : G S (Gd (.bool true) false X Y) := ⟨fun w hw => ⟨h1.run w hw⟩⟩
theorem G.gdft {X Y : WP} (h1 : G S Y) : G S (Gd (.bool false) true X Y) := ⟨fun w hw => ⟨h1.run w hw⟩⟩
theorem G.jn {α : Type} {k : α → WP} {f : (α → WP) → WP} (h : G S (f k)) : G S (Jn k f) := ⟨fun w hw => ⟨h.run w hw⟩⟩
/-- What stands behind a join, by a condition of the prover's. -/
theorem G.jnk {α : Type} {k : α → WP} {f : (α → WP) → WP} (M : α → WP → Prop) (h : ∀ a S', M a S' → G S' (k a)) (hf : ∀ k' : α → WP, (∀ a S', M a S' → G S' (k' a)) → G S (f k')) : G S (Jn k f) := ⟨fun w hw => ⟨(hf k h).run w hw⟩⟩
theorem G.jk {f : Fr → WP} (h : ∀ j, G S (f j)) : G S (Jk f) := ⟨fun w hw => ⟨fun j => (h j).run w hw⟩⟩
theorem G.or2 {X Y : WP} (h1 : G S X) (h2 : G S Y) : G S (Or2 X Y) := ⟨fun w hw => ⟨h1.run w hw, h2.run w hw⟩⟩
theorem G.with {C : WP} {X : WP} (h1 : ∀ w, S w → C w) (h2 : G S X) : G S (With C X) := ⟨fun w hw => ⟨h1 w hw, h2.run w hw⟩⟩
theorem G.qk {KQ : WP → Value → WP} (C : WP) (hC : ∀ w, S w → C w) [hy : Yd P C s v] (h : G S (KQ C v)) : G S (Qk P s KQ) := ⟨fun w hw =>
  ⟨C, hC w hw, v, fun w hw => hy.run w hw, h.run w hw⟩⟩
end

theorem Gs.dr {w0 : World} {h0 h : Hp} {L : List Itm} {X : WP} (hx : Gs w0 h0 h L X) : Gs w0 h0 h L (Dr X) := ⟨fun w hw => ⟨hx.run _ hw.drew⟩⟩

/-- A loop: an invariant, a measure. -/
theorem G.lp {S : WP} {α : Type} {B : (α → WP) → α → WP} {s : α} (Inv : α → WP) (μ : α → Nat) (h0 : ∀ w, S w → Inv s w)
    (hr : ∀ s, G (Inv s) (B (fun s' w' => Inv s' w' ∧ μ s' < μ s) s)) : G S (Lp B s) := ⟨fun w hw =>
  ⟨Inv, fun s _ => μ s, h0 w hw, fun s w hI => (hr s).run w hI⟩⟩

theorem least {Q : Nat → Prop} (h : ∃ n, Q n) : ∃ n, Q n ∧ ∀ m, Q m → n ≤ m := by
  obtain ⟨n, hn⟩ := h
  induction n using Nat.strongRecOn with
  | _ n ih =>
    by_cases hm : ∃ m, m < n ∧ Q m
    · obtain ⟨m, h1, h2⟩ := hm
      exact ih m h1 h2
    · exact ⟨n, hn, fun m hq => Nat.le_of_not_lt fun hlt => hm ⟨m, hlt, hq⟩⟩
open Classical in
noncomputable def leastOf (Q : Nat → Prop) : Nat := if h : ∃ n, Q n then Classical.choose (least h) else 0
theorem leastOf_mem {Q : Nat → Prop} (h : ∃ n, Q n) : Q (leastOf Q) := by
  unfold leastOf; rw [dif_pos h]; exact (Classical.choose_spec (least h)).1
theorem leastOf_le {Q : Nat → Prop} {m : Nat} (h : Q m) : leastOf Q ≤ m := by
  unfold leastOf; rw [dif_pos ⟨m, h⟩]; exact (Classical.choose_spec (least ⟨m, h⟩)).2 m h

/-- A loop, its states told by a ghost. -/
theorem Gs.lp {w0 : World} {h0 h : Hp} {L : List Itm} {α β : Type} {B : (α → WP) → α → WP} {s : α} (f : β → α) (hp : β → Hp) (Li : β → List Itm) (p : β → Prop) (μ : β → Nat) (b0 : β)
    (hs : s = f b0) (hp0 : p b0) (hst : ∀ w, St w0 h0 h L w → St w0 h0 (hp b0) (Li b0) w)
    (hr : ∀ b, p b → ∀ cont : α → WP, (∀ b', p b' → μ b' < μ b → Gs w0 h0 (hp b') (Li b') (cont (f b'))) → Gs w0 h0 (hp b) (Li b) (B cont (f b))) : Gs w0 h0 h L (Lp B s) := ⟨fun w hw => by
  refine ⟨fun s w => ∃ b, s = f b ∧ p b ∧ St w0 h0 (hp b) (Li b) w, fun s w => leastOf fun n => ∃ b, s = f b ∧ p b ∧ St w0 h0 (hp b) (Li b) w ∧ μ b = n, ⟨b0, hs, hp0, hst w hw⟩, ?_⟩
  rintro s w ⟨b1, e1, p1, s1⟩
  obtain ⟨b, rfl, pb, sb, hμ⟩ := leastOf_mem (Q := fun n => ∃ b, s = f b ∧ p b ∧ St w0 h0 (hp b) (Li b) w ∧ μ b = n) ⟨_, b1, e1, p1, s1, rfl⟩
  dsimp only
  rw [← hμ]
  exact (hr b pb _ (fun b' pb' hlt => ⟨fun w' sw' => ⟨⟨b', rfl, pb', sw'⟩, Nat.lt_of_le_of_lt (leastOf_le ⟨b', rfl, pb', sw', rfl⟩) hlt⟩⟩)).run w sb⟩
/-- The round goes on at a state that is the ghost's. -/
theorem Gs.go {w0 : World} {h0 h : Hp} {L : List Itm} {α : Type} {cont : α → WP} {t t' : α} (hc : Gs w0 h0 h L (cont t')) (e : t = t') : Gs w0 h0 h L (cont t) := e ▸ hc

/-! ### Calls -/
def goFnB (P : Program) (f : FuncId) : Bool := match P.funcs[f]? with
  | some fn => fn.body.isSome && !(fn.name == "runtime.NumGoroutine")
  | none => false
class IsGo (P : Program) (f : FuncId) : Prop where
  ok : goFnB P f = true

theorem run_vCall {P : Program} {f : FuncId} [hg : IsGo P f] (args caps : List Value) (w : World) :
    (vCall (.func (.func f) #[] ⟨caps⟩) args).run P w = .ok (.enter f ⟨args ++ caps⟩) w := by
  have h := hg.ok
  unfold goFnB at h
  cases hf : P.funcs[f]? with
  | none => rw [hf] at h; cases h
  | some fn =>
    rw [hf] at h
    simp only [Bool.and_eq_true, Bool.not_eq_true', beq_eq_false_iff_ne, ne_eq] at h
    obtain ⟨h1, h2⟩ := h
    have h3 : fn.body.isNone = false := by cases hb : fn.body <;> simp_all
    unfold vCall Deferred.ofValue
    simp only [pure_bind]
    unfold invoke callFunc
    show Sem.run P (Sem.bind program _) w = _
    simp only [program, Sem.bind, Sem.run, hf]
    simp [h2, h3, Sem.run, pure]

/-- A function's contract: from whatever world that holds the frozen part it returns; all that was there is as it was; the frozen part has grown by what is new; of that and of the result, 'post'. -/
structure RetP [M : Mode] (w0 : World) (h0 : Hp) (post : Hp → Value → Prop) (v : Value) (w' : World) : Prop where
  below : Below w0.heap.size w0 w'
  out : ∃ h', Hle h0 h' ∧ (∀ k, k < w0.heap.size → h' k = h0 k) ∧ Hle h' (World.hp w') ∧ post h' v
  drawn : M.D → w0.drawn ≤ w'.drawn
def Ct [M : Mode] (P : Program) (f : FuncId) (args : List Value) (h : Hp) (post : Hp → Value → Prop) : Prop :=
  ∀ w, Hle h (World.hp w) → Runs P f args (RetP w h post) w

theorem St.entry {w0 : World} {h : Hp} (hh : Hle h (World.hp w0)) : St w0 h h [] w0 :=
  ⟨Below.refl _ _, Hle.refl h, fun _ _ => rfl, hh, fun _ hi => ((by cases hi)), List.Pairwise.nil, fun _ => Nat.le_refl _⟩

/-- From the shallow form to the contract. -/
theorem Ct.of {P : Program} {f : FuncId} {args : List Value} {h : Hp} {post : Hp → Value → Prop} {sf : (Value → WP) → WP}
    (hc : ∀ K w, sf K w → Runs P f args K w) (hg : ∀ w0, Gs w0 h h [] (sf (RetP w0 h post))) : Ct P f args h post := fun w hh =>
  hc _ w ((hg w).run w (St.entry hh))

theorem Gs.ret {w0 : World} {h0 h : Hp} {L : List Itm} {post : Hp → Value → Prop} {v : Value} (hp : post h v) : Gs w0 h0 h L (RetP w0 h0 post v) := ⟨fun _ s =>
  ⟨s.below, ⟨h, s.up, s.old, s.frozen, hp⟩, s.drawn⟩⟩

theorem Ct.mono {P : Program} {f : FuncId} {args : List Value} {h : Hp} {post post' : Hp → Value → Prop} (hf : Ct P f args h post) (hp : ∀ h' v, Hle h h' → post h' v → post' h' v) : Ct P f args h post' := fun w hh =>
  Calls.mono (hf w hh) fun e w' he => by
    cases e with
    | returned v =>
      obtain ⟨h1, ⟨h', h2, h3, h4, h5⟩, h6⟩ := he
      exact ⟨h1, ⟨h', h2, h3, h4, hp _ _ h2 h5⟩, h6⟩
    | panicked c => exact he.elim
    | outgrown => exact he.elim

theorem Gs.call {P : Program} {f : FuncId} [IsGo P f] {args caps : List Value} {w0 : World} {h0 h : Hp} {L : List Itm} {K : Value → WP} {post : Hp → Value → Prop}
    (hf : Ct P f (args ++ caps) h post) (hk : ∀ v h', Hle h h' → post h' v → Gs w0 h0 h' L (K v)) : Gs w0 h0 h L (Do P (vCall (.func (.func f) #[] ⟨caps⟩) args) K) := ⟨fun w s => Do.of (run_vCall _ _ _) (by
  refine Calls.mono (hf w s.frozen) fun e w' he => ?_
  cases e with
  | panicked c => exact he.elim
  | outgrown => exact he.elim
  | returned v =>
    obtain ⟨h1, ⟨h', h2, h3, h4, h5⟩, h6⟩ := he
    exact (hk v h' h2 h5).run w' (s.grow h1 h2 h3 h4 h6))⟩

/-- A call whose result is one value whatever the world; the frozen part stays. -/
theorem Gs.callv {P : Program} {f : FuncId} [IsGo P f] {args caps : List Value} {w0 : World} {h0 h : Hp} {L : List Itm} {K : Value → WP} {r : Value}
    (hf : Ct P f (args ++ caps) h (fun _ v => v = r)) (hk : Gs w0 h0 h L (K r)) : Gs w0 h0 h L (Do P (vCall (.func (.func f) #[] ⟨caps⟩) args) K) := ⟨fun w s => Do.of (run_vCall _ _ _) (by
  refine Calls.mono (hf w s.frozen) fun e w' he => ?_
  cases e with
  | panicked c => exact he.elim
  | outgrown => exact he.elim
  | returned v =>
    obtain ⟨h1, ⟨h', h2, h3, h4, h5⟩, h6⟩ := he
    subst h5
    exact hk.run w' (s.grow h1 (Hle.refl h) (fun _ _ => rfl) (h2.trans h4) h6))⟩

/-- A call that is walked into. -/
theorem Gs.into {P : Program} {f : FuncId} [IsGo P f] {args caps : List Value} {S : WP} {K : Value → WP} {sf : (Value → WP) → WP}
    (hc : ∀ K w, sf K w → Runs P f (args ++ caps) K w) (hk : G S (sf K)) : G S (Do P (vCall (.func (.func f) #[] ⟨caps⟩) args) K) := ⟨fun w s => Do.of (run_vCall _ _ _) (by
  refine Calls.mono (hc K w (hk.run w s)) fun e w' he => ?_
  cases e with
  | panicked c => exact he.elim
  | outgrown => exact he.elim
  | returned v => exact he)⟩

theorem Gs.call0 {P : Program} {f : FuncId} [IsGo P f] {args : List Value} {w0 : World} {h0 h : Hp} {L : List Itm} {K : Value → WP} {post : Hp → Value → Prop}
    (hf : Ct P f args h post) (hk : ∀ v h', Hle h h' → post h' v → Gs w0 h0 h' L (K v)) : Gs w0 h0 h L (Do P (vCall (.func (.func f) #[] ⟨[]⟩) args) K) :=
  Gs.call (by rw [List.append_nil]; exact hf) hk
theorem Gs.callv0 {P : Program} {f : FuncId} [IsGo P f] {args : List Value} {w0 : World} {h0 h : Hp} {L : List Itm} {K : Value → WP} {r : Value}
    (hf : Ct P f args h (fun _ v => v = r)) (hk : Gs w0 h0 h L (K r)) : Gs w0 h0 h L (Do P (vCall (.func (.func f) #[] ⟨[]⟩) args) K) :=
  Gs.callv (by rw [List.append_nil]; exact hf) hk

end Go.Sk
end

section
/-
  The operations: numbers, blocks, fields.
-/
set_option linter.unusedVariables false
set_option linter.unusedSimpArgs false
namespace Go.Sk
open Go Go.RowKit
variable {M : Mode}

/-! ### What the types are -/
def aggD : TypeDesc → Bool
  | .struct _ | .array _ _ => true
  | _ => false
def oneB (P : Program) (t : TypeId) : Bool := match P.underlying t, P.info? t with
  | some d, some i => !aggD d && Nat.beq i.size 1
  | _, _ => false
def aggB (P : Program) (t : TypeId) (n : Nat) : Bool := match P.underlying t, P.info? t with
  | some d, some i => aggD d && Nat.beq i.size n
  | _, _ => false
class TOne (P : Program) (t : TypeId) : Prop where
  ok : oneB P t = true
class TAgg (P : Program) (t : TypeId) (n : outParam Nat) : Prop where
  ok : aggB P t n = true
def fieldB (P : Program) (t f off : Nat) : Bool := match P.underlying t with
  | some (.struct fs) => match fs[f]? with
    | some x => Nat.beq x.offset off && (match P.info? x.type with | some i => !Nat.beq i.size 0 | none => false)
    | none => false
  | _ => false
class TField (P : Program) (t f : Nat) (off : outParam Nat) : Prop where
  ok : fieldB P t f off = true
def sizeB (P : Program) (t n : Nat) : Bool := match P.info? t with
  | some i => Nat.beq i.size n
  | none => false
class TSize (P : Program) (t : TypeId) (n : outParam Nat) : Prop where
  ok : sizeB P t n = true

def sliceB (P : Program) (t e sz by_ : Nat) : Bool := match P.underlying t, P.info? e with
  | some (.slice e'), some i => Nat.beq e e' && Nat.beq i.size sz && Nat.beq i.bytes by_ && !Nat.beq sz 0
  | _, _ => false
class TSlice (P : Program) (t : TypeId) (e : outParam TypeId) (sz by_ : outParam Nat) : Prop where
  ok : sliceB P t e sz by_ = true
def arrB (P : Program) (t n e sz : Nat) : Bool := match P.underlying t, P.info? e with
  | some (.array n' e'), some i => Nat.beq n n' && Nat.beq e e' && Nat.beq i.size sz
  | _, _ => false
class TArr (P : Program) (t : TypeId) (n e sz : outParam Nat) : Prop where
  ok : arrB P t n e sz = true
def strB (P : Program) (t : Nat) : Bool := match P.underlying t with
  | some .string => true
  | _ => false
class TStr (P : Program) (t : TypeId) : Prop where
  ok : strB P t = true
def intB (P : Program) (t : Nat) (k : IntKind) : Bool := match P.underlying t with
  | some (.int k') => k == k'
  | _ => false
class TInt (P : Program) (t : TypeId) (k : outParam IntKind) : Prop where
  ok : intB P t k = true
def boolB (P : Program) (t : Nat) : Bool := match P.underlying t with
  | some .bool => true
  | _ => false
class TBool (P : Program) (t : TypeId) : Prop where
  ok : boolB P t = true

theorem runU {P : Program} {t : TypeId} {d : TypeDesc} (h : P.underlying t = some d) (w : World) : (underlying t).run P w = .ok d w := by
  unfold underlying program
  show Sem.run P (Sem.bind _ _) w = _
  simp only [Sem.bind, Sem.run, h]
  rfl
theorem run_sizeOf {P : Program} {t : TypeId} {i : TypeInfo} (h : P.info? t = some i) (w : World) : (sizeOf t).run P w = .ok i.size w := by
  unfold sizeOf typeInfo program
  show Sem.run P (Sem.bind (Sem.bind _ _) _) w = _
  simp only [Sem.bind, Sem.run, h]
  rfl
theorem run_isAgg {P : Program} {t : TypeId} {d : TypeDesc} (h : P.underlying t = some d) (w : World) : (isAgg t).run P w = .ok (aggD d) w := by
  unfold isAgg
  rw [Sem.run_bind, runU h]
  cases d <;> rfl

theorem TOne.spec {P : Program} {t : TypeId} (h : TOne P t) : ∃ d i, P.underlying t = some d ∧ P.info? t = some i ∧ aggD d = false ∧ i.size = 1 := by
  have h := h.ok
  unfold oneB at h
  cases hu : P.underlying t <;> cases hi : P.info? t <;> rw [hu, hi] at h <;> try (cases h; done)
  rename_i d i
  simp only [Bool.and_eq_true, Bool.not_eq_true'] at h
  exact ⟨d, i, rfl, rfl, h.1, Nat.eq_of_beq_eq_true h.2⟩
theorem TAgg.spec {P : Program} {t n : Nat} (h : TAgg P t n) : ∃ d i, P.underlying t = some d ∧ P.info? t = some i ∧ aggD d = true ∧ i.size = n := by
  have h := h.ok
  unfold aggB at h
  cases hu : P.underlying t <;> cases hi : P.info? t <;> rw [hu, hi] at h <;> try (cases h; done)
  rename_i d i
  simp only [Bool.and_eq_true] at h
  exact ⟨d, i, rfl, rfl, h.1, Nat.eq_of_beq_eq_true h.2⟩
theorem TSize.spec {P : Program} {t n : Nat} (h : TSize P t n) : ∃ i, P.info? t = some i ∧ i.size = n := by
  have h := h.ok
  unfold sizeB at h
  cases hi : P.info? t <;> rw [hi] at h <;> try (cases h; done)
  exact ⟨_, rfl, Nat.eq_of_beq_eq_true h⟩

class AddN (a b : Nat) (c : outParam Nat) : Prop where
  ok : a + b = c
instance (priority := 2000) AddN.zero {b : Nat} : AddN 0 b b := ⟨Nat.zero_add b⟩
instance (priority := 1900) AddN.zero' {a : Nat} : AddN a 0 a := ⟨rfl⟩
instance : AddN 1 1 2 := ⟨rfl⟩
instance : AddN 1 2 3 := ⟨rfl⟩
instance : AddN 1 3 4 := ⟨rfl⟩
instance : AddN 1 4 5 := ⟨rfl⟩
instance : AddN 1 5 6 := ⟨rfl⟩
instance : AddN 1 6 7 := ⟨rfl⟩
instance : AddN 1 7 8 := ⟨rfl⟩
instance : AddN 1 8 9 := ⟨rfl⟩
instance : AddN 2 1 3 := ⟨rfl⟩
instance : AddN 2 2 4 := ⟨rfl⟩
instance : AddN 2 3 5 := ⟨rfl⟩
instance : AddN 2 4 6 := ⟨rfl⟩
instance : AddN 2 5 7 := ⟨rfl⟩
instance : AddN 2 6 8 := ⟨rfl⟩
instance : AddN 2 7 9 := ⟨rfl⟩
instance : AddN 2 8 10 := ⟨rfl⟩
instance : AddN 3 1 4 := ⟨rfl⟩
instance : AddN 3 2 5 := ⟨rfl⟩
instance : AddN 3 3 6 := ⟨rfl⟩
instance : AddN 3 4 7 := ⟨rfl⟩
instance : AddN 3 5 8 := ⟨rfl⟩
instance : AddN 3 6 9 := ⟨rfl⟩
instance : AddN 3 7 10 := ⟨rfl⟩
instance : AddN 3 8 11 := ⟨rfl⟩
instance : AddN 4 1 5 := ⟨rfl⟩
instance : AddN 4 2 6 := ⟨rfl⟩
instance : AddN 4 3 7 := ⟨rfl⟩
instance : AddN 4 4 8 := ⟨rfl⟩
instance : AddN 4 5 9 := ⟨rfl⟩
instance : AddN 4 6 10 := ⟨rfl⟩
instance : AddN 4 7 11 := ⟨rfl⟩
instance : AddN 4 8 12 := ⟨rfl⟩
instance : AddN 5 1 6 := ⟨rfl⟩
instance : AddN 5 2 7 := ⟨rfl⟩
instance : AddN 5 3 8 := ⟨rfl⟩
instance : AddN 5 4 9 := ⟨rfl⟩
instance : AddN 5 5 10 := ⟨rfl⟩
instance : AddN 5 6 11 := ⟨rfl⟩
instance : AddN 5 7 12 := ⟨rfl⟩
instance : AddN 5 8 13 := ⟨rfl⟩
instance : AddN 6 1 7 := ⟨rfl⟩
instance : AddN 6 2 8 := ⟨rfl⟩
instance : AddN 6 3 9 := ⟨rfl⟩
instance : AddN 6 4 10 := ⟨rfl⟩
instance : AddN 6 5 11 := ⟨rfl⟩
instance : AddN 6 6 12 := ⟨rfl⟩
instance : AddN 6 7 13 := ⟨rfl⟩
instance : AddN 6 8 14 := ⟨rfl⟩
instance : AddN 7 1 8 := ⟨rfl⟩
instance : AddN 7 2 9 := ⟨rfl⟩
instance : AddN 7 3 10 := ⟨rfl⟩
instance : AddN 7 4 11 := ⟨rfl⟩
instance : AddN 7 5 12 := ⟨rfl⟩
instance : AddN 7 6 13 := ⟨rfl⟩
instance : AddN 7 7 14 := ⟨rfl⟩
instance : AddN 7 8 15 := ⟨rfl⟩
instance : AddN 8 1 9 := ⟨rfl⟩
instance : AddN 8 2 10 := ⟨rfl⟩
instance : AddN 8 3 11 := ⟨rfl⟩
instance : AddN 8 4 12 := ⟨rfl⟩
instance : AddN 8 5 13 := ⟨rfl⟩
instance : AddN 8 6 14 := ⟨rfl⟩
instance : AddN 8 7 15 := ⟨rfl⟩
instance : AddN 8 8 16 := ⟨rfl⟩
instance : AddN 9 1 10 := ⟨rfl⟩
instance : AddN 9 2 11 := ⟨rfl⟩
instance : AddN 9 3 12 := ⟨rfl⟩
instance : AddN 9 4 13 := ⟨rfl⟩
instance : AddN 9 5 14 := ⟨rfl⟩
instance : AddN 9 6 15 := ⟨rfl⟩
instance : AddN 9 7 16 := ⟨rfl⟩
instance : AddN 9 8 17 := ⟨rfl⟩
instance : AddN 10 1 11 := ⟨rfl⟩
instance : AddN 10 2 12 := ⟨rfl⟩
instance : AddN 10 3 13 := ⟨rfl⟩
instance : AddN 10 4 14 := ⟨rfl⟩
instance : AddN 10 5 15 := ⟨rfl⟩
instance : AddN 10 6 16 := ⟨rfl⟩
instance : AddN 10 7 17 := ⟨rfl⟩
instance : AddN 10 8 18 := ⟨rfl⟩
/-! ### Lists of cells -/
class Nth (l : List Value) (i : Nat) (v : outParam Value) : Prop where
  ok : l[i]? = some v
instance Nth.zero {v : Value} {r : List Value} : Nth (v :: r) 0 v := ⟨rfl⟩
instance Nth.succ {x v : Value} {r : List Value} {i : Nat} [h : Nth r i v] : Nth (x :: r) (i + 1) v := ⟨by simpa using h.ok⟩
/-- n cells from the o-th on. -/
class Subl (l : List Value) (o n : Nat) (s : outParam (List Value)) : Prop where
  ok : ∃ a c, l = a ++ s ++ c ∧ a.length = o ∧ s.length = n
instance Subl.nil {l : List Value} : Subl l 0 0 [] := ⟨[], l, by simp⟩
instance Subl.take {x : Value} {r s : List Value} {n : Nat} [h : Subl r 0 n s] : Subl (x :: r) 0 (n + 1) (x :: s) := ⟨by
  obtain ⟨a, c, h1, h2, h3⟩ := h.ok
  have : a = [] := List.eq_nil_of_length_eq_zero h2
  subst this
  exact ⟨[], c, by simp [h1], rfl, by simp [h3]⟩⟩
instance Subl.drop {x : Value} {r s : List Value} {o n : Nat} [h : Subl r o n s] : Subl (x :: r) (o + 1) n s := ⟨by
  obtain ⟨a, c, h1, h2, h3⟩ := h.ok
  exact ⟨x :: a, c, by simp [h1], by simp [h2], h3⟩⟩
/-- The cells of a value. -/
class Cells (v : Value) (l : outParam (List Value)) : Prop where
  ok : v.cells = l.toArray
instance {l : List Value} : Cells (.agg l.toArray) l := ⟨rfl⟩
instance {k : IntKind} {n : Int} : Cells (.int k n) [.int k n] := ⟨rfl⟩
instance {b : Bool} : Cells (.bool b) [.bool b] := ⟨rfl⟩
instance {s : ByteArray} : Cells (.string s) [.string s] := ⟨rfl⟩
instance {a : Option Addr} : Cells (.pointer a) [.pointer a] := ⟨rfl⟩
instance {a : Option Addr} {n c : Nat} : Cells (.slice a n c) [.slice a n c] := ⟨rfl⟩
instance {r : Option Nat} : Cells (.map r) [.map r] := ⟨rfl⟩
instance {f : Go.Fn} {a b : Array Value} : Cells (.func f a b) [.func f a b] := ⟨rfl⟩
instance {t : TypeId} {v : Value} : Cells (.iface t v) [.iface t v] := ⟨rfl⟩
instance : Cells .nilFunc [.nilFunc] := ⟨rfl⟩
instance : Cells .nilIface [.nilIface] := ⟨rfl⟩
class LenIs (l : List Value) (n : Nat) : Prop where
  ok : l.length = n
instance LenIs.nil : LenIs [] 0 := ⟨rfl⟩
instance LenIs.cons {x : Value} {r : List Value} {n : Nat} [h : LenIs r n] : LenIs (x :: r) (n + 1) := ⟨by simp [h.ok]⟩
/-- Cells written over. -/
class SetN (l : List Value) (o : Nat) (s : List Value) (r : outParam (List Value)) : Prop where
  ok : ∃ a b c, l = a ++ b ++ c ∧ r = a ++ s ++ c ∧ a.length = o ∧ b.length = s.length
instance SetN.nil {l : List Value} : SetN l 0 [] l := ⟨[], [], l, by simp⟩
instance SetN.put {x y : Value} {r s t : List Value} [h : SetN r 0 s t] : SetN (x :: r) 0 (y :: s) (y :: t) := ⟨by
  obtain ⟨a, b, c, h1, h2, h3, h4⟩ := h.ok
  have : a = [] := List.eq_nil_of_length_eq_zero h3
  subst this
  exact ⟨[], x :: b, c, by simp [h1], by simp [h2], rfl, by simp [h4]⟩⟩
instance SetN.skip {x : Value} {r s t : List Value} {o : Nat} [h : SetN r o s t] : SetN (x :: r) (o + 1) s (x :: t) := ⟨by
  obtain ⟨a, b, c, h1, h2, h3, h4⟩ := h.ok
  exact ⟨x :: a, b, c, by simp [h1], by simp [h2], by simp [h3], h4⟩⟩

/-! ### Loads -/
theorem cell_of {w : World} {b : Nat} {cs : List Value} {e : TypeId} {fz : Nat × Nat} (h : w.heap[b]? = some (.cells cs.toArray e fz)) (o : Nat) : w.cell? ⟨b, o, none⟩ = cs[o]? := by
  simp [World.cell?, h]

theorem runLd {P : Program} {w : World} {a : Addr} {v : Value} (h : w.cell? a = some v) : (load a).run P w = .ok v w := by
  simp [load, Sem.run, h]

theorem add_addr (b o n : Nat) : (⟨b, o, none⟩ : Addr).add n = ⟨b, o + n, none⟩ := by
  unfold Addr.add
  split
  · rename_i h; subst h; rfl
  · rfl

theorem runLCF {P : Program} {w : World} {b o : Nat} {cs : List Value} {e : TypeId} {fz : Nat × Nat} (h : w.heap[b]? = some (.cells cs.toArray e fz)) :
    ∀ (s : List Value) (a c : List Value) (i : Nat) (acc : Array Value), cs = a ++ s ++ c → a.length = o + i → (loadCellsFrom ⟨b, o, none⟩ i s.length acc).run P w = .ok (acc ++ s.toArray) w
  | [], a, c, i, acc, _, _ => by simp [loadCellsFrom, pure, Sem.run]
  | x :: s, a, c, i, acc, hcs, hl => by
    have hx : w.cell? ((⟨b, o, none⟩ : Addr).add i) = some x := by
      rw [add_addr, cell_of h, hcs, ← hl]
      simp
    unfold loadCellsFrom
    simp only [List.length_cons, Sem.run_bind, runLd hx, Result.andThen_ok]
    rw [runLCF h s (a ++ [x]) c (i + 1) (acc.push x) (by simp [hcs]) (by simp [hl]; omega)]
    simp

theorem run_loadVar_one {P : Program} {t : TypeId} [ht : TOne P t] {w : World} {a : Addr} {v : Value} (h : w.cell? a = some v) : (loadVar t a).run P w = .ok v w := by
  obtain ⟨d, i, h1, h2, h3, h4⟩ := ht.spec
  unfold loadVar
  rw [Sem.run_bind, run_isAgg h1, h3]
  exact runLd h
theorem run_loadVar_agg {P : Program} {t n : Nat} [ht : TAgg P t n] {w : World} {b o : Nat} {cs s : List Value} {e : TypeId} {fz : Nat × Nat} (h : w.heap[b]? = some (.cells cs.toArray e fz)) [hs : Subl cs o n s] : (loadVar t ⟨b, o, none⟩).run P w = .ok (.agg s.toArray) w := by
  obtain ⟨d, i, h1, h2, h3, h4⟩ := ht.spec
  obtain ⟨x, c, h5, h6, h7⟩ := hs.ok
  unfold loadVar
  simp only [Sem.run_bind, run_isAgg h1, h3, Result.andThen_ok, if_true, run_sizeOf h2]
  unfold loadCells
  rw [h4, ← h7, runLCF h s x c 0 #[] h5 (by omega)]
  simp [pure, Sem.run]

theorem V_run {P : Program} {s : Sem Value} {w : World} {v : Value} (h : s.run P w = .ok v w) : (V s).run P w = .ok (.value v) w := by
  unfold V; rw [Sem.run_bind, h]; rfl
theorem loadAt_run {P : Program} {t b o : Nat} {w : World} {v : Value} (h : (loadVar t ⟨b, o, none⟩).run P w = .ok v w) : (V (Instr.loadAt t (ptr b o))).run P w = .ok (.value v) w := by
  refine V_run ?_
  unfold Instr.loadAt Instr.sureAddr
  exact h

theorem St.blk {w0 : World} {h0 h : Hp} {L : List Itm} {b : Nat} {cs : List Value} {e : TypeId} {w : World} (s : St w0 h0 h L w) (hh : Itm.blk b cs e ∈ L) : w.heap[b]? = some (.cells cs.toArray e (0, 0)) :=
  (s.items _ hh).1

section
variable {P : Program} {w0 : World} {h0 h : Hp} {L : List Itm}
instance Yd.loadBlk1 {t b o : Nat} {cs : List Value} {e : TypeId} {v : Value} [hb : Blk L b cs e] [TOne P t] [hn : Nth cs o v] : Yd P (St w0 h0 h L) (V (Instr.loadAt t (ptr b o))) v :=
  ⟨fun w s => loadAt_run (run_loadVar_one (by rw [cell_of (s.blk hb.mem)]; exact hn.ok))⟩
instance Yd.loadBlkN {t b o n : Nat} {cs : List Value} {e : TypeId} {s : List Value} [hb : Blk L b cs e] [TAgg P t n] [Subl cs o n s] : Yd P (St w0 h0 h L) (V (Instr.loadAt t (ptr b o))) (.agg s.toArray) :=
  ⟨fun w st => loadAt_run (run_loadVar_agg (st.blk hb.mem))⟩

/-! ### Pure operations -/
variable {S : WP}
theorem Yd.of {s : Sem Value} {v : Value} (h : ∀ w, s.run P w = .ok v w) : Yd P S (V s) v := ⟨fun w _ => V_run (h w)⟩
instance Yd.field {t b o f off c : Nat} [hf : TField P t f off] [ha : AddN o off c] : Yd P S (V (Instr.fieldAt t (ptr b o) f)) (ptr b c) := Yd.of fun w => by
  rw [← ha.ok]
  have hf := hf.ok
  unfold fieldB at hf
  cases hu : P.underlying t with
  | none => rw [hu] at hf; cases hf
  | some d =>
    rw [hu] at hf
    cases d <;> try (cases hf; done)
    rename_i fs
    simp only at hf
    cases hx : fs[f]? with
    | none => rw [hx] at hf; cases hf
    | some x =>
      rw [hx] at hf
      simp only [Bool.and_eq_true] at hf
      obtain ⟨h1, h2⟩ := hf
      cases hi : P.info? x.type with
      | none => rw [hi] at h2; cases h2
      | some i =>
        rw [hi] at h2
        have hz : i.size ≠ 0 := fun e => by simp [e] at h2
        unfold Instr.fieldAt Instr.sureAddr fieldPlace
        simp only [Sem.run_bind, runU hu, Result.andThen_ok, hx, run_sizeOf hi, if_neg hz, pure, Sem.run]
        rw [add_addr, Nat.eq_of_beq_eq_true h1]
instance Yd.add {t : TypeId} {k : IntKind} {a b : Int} : Yd P S (V (binOp .add t (.int k a) (.int k b))) (.int k (k.wrap (a + b))) := Yd.of fun w => by
  simp [binOp, Op.intArith, pure, Sem.run]
instance Yd.sub {t : TypeId} {k : IntKind} {a b : Int} : Yd P S (V (binOp .sub t (.int k a) (.int k b))) (.int k (k.wrap (a - b))) := Yd.of fun w => by
  simp [binOp, Op.intArith, pure, Sem.run]
instance Yd.mul {t : TypeId} {k : IntKind} {a b : Int} : Yd P S (V (binOp .mul t (.int k a) (.int k b))) (.int k (k.wrap (a * b))) := Yd.of fun w => by
  simp [binOp, Op.intArith, pure, Sem.run]
instance Yd.lss {t : TypeId} {k : IntKind} {a b : Int} : Yd P S (V (binOp .lss t (.int k a) (.int k b))) (.bool (decide (a < b))) := Yd.of fun w => by
  simp [binOp, Op.intCmp, pure, Sem.run]
instance Yd.leq {t : TypeId} {k : IntKind} {a b : Int} : Yd P S (V (binOp .leq t (.int k a) (.int k b))) (.bool (decide (a ≤ b))) := Yd.of fun w => by
  simp [binOp, Op.intCmp, pure, Sem.run]
instance Yd.gtr {t : TypeId} {k : IntKind} {a b : Int} : Yd P S (V (binOp .gtr t (.int k a) (.int k b))) (.bool (decide (b < a))) := Yd.of fun w => by
  simp [binOp, Op.intCmp, pure, Sem.run]
instance Yd.geq {t : TypeId} {k : IntKind} {a b : Int} : Yd P S (V (binOp .geq t (.int k a) (.int k b))) (.bool (decide (b ≤ a))) := Yd.of fun w => by
  simp [binOp, Op.intCmp, pure, Sem.run]
theorem beq_dec (a b : Int) : (a == b) = decide (a = b) := by
  cases h : a == b
  · symm; rw [decide_eq_false_iff_not]; intro e; subst e; simp at h
  · symm; rw [decide_eq_true_iff]; simpa using h
theorem bne_dec (a b : Int) : (a != b) = decide (a ≠ b) := by
  unfold bne; rw [beq_dec]; by_cases h : a = b <;> simp [h]
instance Yd.eql {t : TypeId} {x y : Operand} {k : IntKind} {a b : Int} : Yd P S (V (EqG .eql t x y (.int k a) (.int k b))) (.bool (decide (a = b))) := Yd.of fun w => by
  simp [EqG, eqGuard, binOp, Op.intCmp, pure, Sem.run, beq_dec, Sem.bind, bind]
instance Yd.neq {t : TypeId} {x y : Operand} {k : IntKind} {a b : Int} : Yd P S (V (EqG .neq t x y (.int k a) (.int k b))) (.bool (decide (a ≠ b))) := Yd.of fun w => by
  simp [EqG, eqGuard, binOp, Op.intCmp, pure, Sem.run, bne_dec, Sem.bind, bind]
instance Yd.not {b : Bool} : Yd P S (V (Op.unary .not (.bool b))) (.bool (!b)) := Yd.of fun w => rfl
instance Yd.neg {k : IntKind} {a : Int} : Yd P S (V (Op.unary .neg (.int k a))) (.int k (k.wrap (0 - a))) := Yd.of fun w => rfl
instance Yd.extract {l : List Value} {i : Nat} {v : Value} [h : Nth l i v] : Yd P S (V (Instr.extract (.tuple l.toArray) i)) v := Yd.of fun w => by
  unfold Instr.extract
  simp [h.ok, pure, Sem.run]
end

/-! ### What makes or writes blocks -/
section
variable {P : Program} {w0 : World} {h0 h : Hp} {L : List Itm} {K : Value → WP}
theorem Gs.box {t : TypeId} {v : Value} {l : List Value} [hc : Cells v l] (hk : ∀ b, Gs w0 h0 h (.blk b l t :: L) (K (ptr b 0))) : Gs w0 h0 h L (Do P (V (Instr.box t v)) K) := ⟨fun w s => by
  have hr : (V (Instr.box t v)).run P w = .ok (.value (ptr w.heap.size 0)) (w.alloc (.cells l.toArray t)) := by
    unfold V Instr.box newVar newRow newObj
    rw [hc.ok]
    rfl
  exact Do.of hr ((hk _).run _ (s.alloc _ _ (fun hp h => h) rfl))⟩

def zeroB (P : Program) (t : TypeId) (l : List Value) : Prop := ∃ i z, P.info? t = some i ∧ i.zero = some z ∧ z.cells = l.toArray
class TZero (P : Program) (t : TypeId) (l : outParam (List Value)) : Prop where
  ok : ((P.info? t).map fun i => i.zero.map fun z => z.cells) = some (some l.toArray)
theorem TZero.spec {t : TypeId} {l : List Value} (h : TZero P t l) : ∃ i z, P.info? t = some i ∧ i.zero = some z ∧ z.cells = l.toArray := by
  have h := h.ok
  cases hi : P.info? t with
  | none => rw [hi] at h; simp at h
  | some i =>
    rw [hi] at h
    cases hz : i.zero with
    | none => simp [hz] at h
    | some z => simp [hz] at h; exact ⟨i, z, rfl, hz, h⟩
theorem run_zeroValue {t : TypeId} {i : TypeInfo} {z : Value} (h : P.info? t = some i) (hz : i.zero = some z) (w : World) : (zeroValue t).run P w = .ok z w := by
  unfold zeroValue typeInfo program
  show Sem.run P (Sem.bind (Sem.bind _ _) _) w = _
  simp only [Sem.bind, Sem.run, h]
  simp [Sem.bind, Sem.run, pure, hz]
theorem Gs.alloc {t : TypeId} {l : List Value} [hz : TZero P t l] (hk : ∀ b, Gs w0 h0 h (.blk b l t :: L) (K (ptr b 0))) : Gs w0 h0 h L (Do P (V (Instr.alloc t true (.tuple #[]))) K) := ⟨fun w s => by
  obtain ⟨i, z, h1, h2, h3⟩ := hz.spec
  have hr : (V (Instr.alloc t true (.tuple #[]))).run P w = .ok (.value (ptr w.heap.size 0)) (w.alloc (.cells l.toArray t)) := by
    unfold V Instr.alloc
    simp only [Sem.run_bind, run_zeroValue h1 h2, Result.andThen_ok]
    unfold newVar newRow newObj
    rw [h3]
    rfl
  exact Do.of hr ((hk _).run _ (s.alloc _ _ (fun hp h => h) rfl))⟩

theorem run_storeCells {b : Nat} {e : TypeId} : ∀ (s a c d : List Value) (o i : Nat) (w : World), w.heap[b]? = some (.cells (a ++ c ++ d).toArray e (0, 0)) → a.length = o + i → c.length = s.length → (∀ v ∈ s, ∀ x, v ≠ .agg x ∧ v ≠ .tuple x) →
    ∃ w', (storeCells ⟨b, o, none⟩ s i).run P w = .ok () w' ∧ w'.heap[b]? = some (.cells (a ++ s ++ d).toArray e (0, 0)) ∧ (∀ k, k ≠ b → w'.heap[k]? = w.heap[k]?) ∧ w'.os = w.os ∧ w'.tape = w.tape ∧ w'.output = w.output ∧ w'.heap.size = w.heap.size ∧ w'.drawn = w.drawn
  | [], a, c, d, o, i, w, h, hl, hc, hv => by
    have : c = [] := List.eq_nil_of_length_eq_zero hc
    subst this
    exact ⟨w, rfl, by simpa using h, fun _ _ => rfl, rfl, rfl, rfl, rfl, rfl⟩
  | v :: s, a, c, d, o, i, w, h, hl, hc, hv => by
    cases c with
    | nil => simp at hc
    | cons x c =>
      have hcell : w.cell? ((⟨b, o, none⟩ : Addr).add i) = some x := by
        rw [add_addr, cell_of h, ← hl]; simp
      have hfz : w.frozen? ((⟨b, o, none⟩ : Addr).add i) = false := by
        rw [add_addr]; simp [World.frozen?, h]
      have hset : (w.setCell ((⟨b, o, none⟩ : Addr).add i) v).heap[b]? = some (.cells ((a ++ [v]) ++ c ++ d).toArray e (0, 0)) := by
        have hm : ∀ {f : Obj → Obj} {g : Obj}, w.heap[b]? = some g → (w.heap.modify b f)[b]? = some (f g) := fun hg => by simp [Array.getElem?_modify, hg]
        rw [add_addr]
        simp only [World.setCell]
        rw [hm h]
        simp [← hl]
      obtain ⟨w', h1, h2, h3, h4, h5, h6, h7⟩ := run_storeCells s (a ++ [v]) c d o (i + 1) _ hset (by simp [hl]; omega) (by simpa using hc) (fun u hu => hv u (by simp [hu]))
      refine ⟨w', ?_, by simpa using h2, fun k hk => (h3 k hk).trans (Below.heap_setCell _ _ _ _ (by rw [add_addr]; exact hk)), h4, h5, h6, by rw [h7.1]; simp, by rw [h7.2]; simp⟩
      unfold storeCells
      have hst : (store ((⟨b, o, none⟩ : Addr).add i) v).run P w = .ok () (w.setCell ((⟨b, o, none⟩ : Addr).add i) v) := by
        have hv := hv v (by simp)
        unfold store
        cases v <;> first
          | (simp only [Sem.run, hcell, hfz]; rfl)
          | exact absurd rfl (hv _).1
          | exact absurd rfl (hv _).2
      rw [Sem.run_bind, hst]
      exact h1

def flat : Value → Bool
  | .agg _ | .tuple _ => false
  | _ => true
class Flat (l : List Value) : Prop where
  ok : ∀ v ∈ l, flat v = true
instance Flat.nil : Flat [] := ⟨fun _ h => by cases h⟩
instance {k : IntKind} {n : Int} {r : List Value} [h : Flat r] : Flat (.int k n :: r) := ⟨by simpa [flat] using h.ok⟩
instance {b : Bool} {r : List Value} [h : Flat r] : Flat (.bool b :: r) := ⟨by simpa [flat] using h.ok⟩
instance {s : ByteArray} {r : List Value} [h : Flat r] : Flat (.string s :: r) := ⟨by simpa [flat] using h.ok⟩
instance {a : Option Addr} {r : List Value} [h : Flat r] : Flat (.pointer a :: r) := ⟨by simpa [flat] using h.ok⟩
instance {a : Option Addr} {n c : Nat} {r : List Value} [h : Flat r] : Flat (.slice a n c :: r) := ⟨by simpa [flat] using h.ok⟩
instance {m : Option Nat} {r : List Value} [h : Flat r] : Flat (.map m :: r) := ⟨by simpa [flat] using h.ok⟩
instance {f : Go.Fn} {a b : Array Value} {r : List Value} [h : Flat r] : Flat (.func f a b :: r) := ⟨by simpa [flat] using h.ok⟩
instance {t : TypeId} {v : Value} {r : List Value} [h : Flat r] : Flat (.iface t v :: r) := ⟨by simpa [flat] using h.ok⟩
instance {r : List Value} [h : Flat r] : Flat (.nilIface :: r) := ⟨by simpa [flat] using h.ok⟩
instance {r : List Value} [h : Flat r] : Flat (.nilFunc :: r) := ⟨by simpa [flat] using h.ok⟩

theorem Gs.perm {L' : List Itm} {X : WP} (hp : L.Perm L') (hx : Gs w0 h0 h L' X) : Gs w0 h0 h L X := ⟨fun w s => hx.run w (s.perm hp)⟩

theorem Gs.store {t n b o : Nat} {v : Value} {l cs cs' : List Value} {e : TypeId} {R : List Itm} [ht : TSize P t n] [hc : Cells v l] [hl : Flat l] [htk : TakeB L b cs e R] [hs : SetN cs o l cs'] [hln : LenIs l n]
    (hk : Gs w0 h0 h (.blk b cs' e :: R) (K undef)) : Gs w0 h0 h L (Do P (U (Instr.storeAt t (ptr b o) v)) K) := Gs.perm htk.perm ⟨fun w s => by
  have hn := hln.ok
  obtain ⟨i, h1, h2⟩ := ht.spec
  obtain ⟨x, y, z, h3, h4, h5, h6⟩ := hs.ok
  have hb : w.heap[b]? = some (.cells cs.toArray e (0, 0)) := s.blk (List.mem_cons_self ..)
  rw [h3] at hb
  obtain ⟨w', g1, g2, g3, g4, g5, g6, g7, g8⟩ := run_storeCells (P := P) l x y z o 0 w hb (by omega) (by omega) (fun v hv a => ⟨fun e => (by have := hl.ok v hv; rw [e] at this; cases this), fun e => (by have := hl.ok v hv; rw [e] at this; cases this)⟩)
  have hr : (U (Instr.storeAt t (ptr b o) v)).run P w = .ok .skip w' := by
    have hsz : v.cells.size = i.size := by rw [hc.ok, h2, ← hn]; simp
    have h1' : (sizeOf t).run P w = .ok i.size w := run_sizeOf h1 w
    have hsv : (storeVar t ⟨b, o, none⟩ v).run P w = .ok () w' := by
      unfold storeVar
      rw [Sem.run_bind, h1', Result.andThen_ok, if_neg (fun h => h hsz), hc.ok]
      exact g1
    unfold U Instr.storeAt Instr.sureAddr
    rw [Sem.run_bind]
    show Result.andThen (Sem.run P (storeVar t ⟨b, o, none⟩ v) w) _ = _
    rw [hsv]
    rfl
  refine Do.of hr (hk.run w' (s.write (it' := .blk b cs' e) rfl rfl g4 g5 g6 g7 g3 ?_ (fun _ => Nat.le_of_eq g8.symm)))
  rw [h4]
  exact g2⟩
end

/-! ### Arithmetic that does not wrap -/
theorem wrap_in {a : Int} (h : -9223372036854775808 ≤ a ∧ a ≤ 9223372036854775807) : IntKind.i64.wrap a = a := IntWalk.i64_in a h
section
variable {P : Program} {S : WP} {K : Value → WP}
theorem G.add {t : TypeId} {a b : Int} (h : -9223372036854775808 ≤ a + b ∧ a + b ≤ 9223372036854775807) (hk : G S (K (I (a + b)))) : G S (Do P (V (binOp .add t (I a) (I b))) K) :=
  G.step (v := .int .i64 (IntKind.i64.wrap (a + b))) (by rw [wrap_in h]; exact hk)
theorem G.sub {t : TypeId} {a b : Int} (h : -9223372036854775808 ≤ a - b ∧ a - b ≤ 9223372036854775807) (hk : G S (K (I (a - b)))) : G S (Do P (V (binOp .sub t (I a) (I b))) K) :=
  G.step (v := .int .i64 (IntKind.i64.wrap (a - b))) (by rw [wrap_in h]; exact hk)
theorem G.mul {t : TypeId} {a b : Int} (h : -9223372036854775808 ≤ a * b ∧ a * b ≤ 9223372036854775807) (hk : G S (K (I (a * b)))) : G S (Do P (V (binOp .mul t (I a) (I b))) K) :=
  G.step (v := .int .i64 (IntKind.i64.wrap (a * b))) (by rw [wrap_in h]; exact hk)
theorem G.neg {a : Int} (h : -9223372036854775808 ≤ -a ∧ -a ≤ 9223372036854775807) (hk : G S (K (I (-a)))) : G S (Do P (V (Op.unary .neg (I a))) K) :=
  G.step (v := .int .i64 (IntKind.i64.wrap (0 - a))) (by rw [wrap_in (by omega), Int.zero_sub]; exact hk)
end
end Go.Sk
end

section
/-
  The operations: composite values, results in memory, slices that are made; the walk's own word.
-/
set_option linter.unusedVariables false
set_option linter.unusedSimpArgs false
namespace Go.Sk
open Go Go.RowKit
variable {M : Mode}

class NthA {α : Type} (l : List α) (i : Nat) (v : outParam α) : Prop where
  ok : l[i]? = some v
instance NthA.zero {α : Type} {v : α} {r : List α} : NthA (v :: r) 0 v := ⟨rfl⟩
instance NthA.succ {α : Type} {x v : α} {r : List α} {i : Nat} [h : NthA r i v] : NthA (x :: r) (i + 1) v := ⟨by simpa using h.ok⟩
class App (a b : List Value) (c : outParam (List Value)) : Prop where
  ok : a ++ b = c
instance App.nil {b : List Value} : App [] b b := ⟨rfl⟩
instance App.cons {x : Value} {a b c : List Value} [h : App a b c] : App (x :: a) b (x :: c) := ⟨by simp [h.ok]⟩

/-- Where the fields lie, the zero value. -/
def structB (P : Program) (t : TypeId) (pl : List (Nat × Nat)) : Bool := match P.underlying t with
  | some (.struct fs) => (fs.toList.map fun f => (P.info? f.type).map fun i => (f.offset, i.size)) == pl.map some
  | _ => false
class TStruct (P : Program) (t : TypeId) (pl : outParam (List (Nat × Nat))) : Prop where
  ok : structB P t pl = true

class Fill (pl : List (Nat × Nat)) (z : List Value) (parts : List (Nat × Value)) (out : outParam (List Value)) : Prop where
  ok : Instr.fill (pl[·]?) z.toArray parts = some out.toArray
instance Fill.nil {pl : List (Nat × Nat)} {z : List Value} : Fill pl z [] z := ⟨rfl⟩


theorem foldl_put : ∀ (l a b c : List Value) (o i : Nat), b.length = l.length → a.length = o + i →
    (l.zipIdx i).foldl (fun (cs : Array Value) x => cs.setIfInBounds (o + x.2) x.1) (a ++ b ++ c).toArray = (a ++ l ++ c).toArray
  | [], a, b, c, o, i, hb, ha => by
    have : b = [] := List.eq_nil_of_length_eq_zero hb
    subst this; simp
  | x :: l, a, b, c, o, i, hb, ha => by
    cases b with
    | nil => simp at hb
    | cons y b =>
      simp only [List.zipIdx_cons, List.foldl_cons]
      have h1 : ((a ++ (y :: b) ++ c).toArray.setIfInBounds (o + i) x) = ((a ++ [x]) ++ b ++ c).toArray := by
        rw [← ha]; simp
      rw [h1, foldl_put l (a ++ [x]) b c o (i + 1) (by simpa using hb) (by simp [ha]; omega)]
      simp

instance Fill.cons {pl : List (Nat × Nat)} {z z' out l : List Value} {i off n : Nat} {v : Value} {r : List (Nat × Value)} [hp : NthA pl i (off, n)] [hc : Cells v l] [hl : LenIs l n] [hs : SetN z off l z'] [hf : Fill pl z' r out] : Fill pl z ((i, v) :: r) out := ⟨by
  obtain ⟨a, b, c, h1, h2, h3, h4⟩ := hs.ok
  have hn := hl.ok
  unfold Instr.fill
  rw [hp.ok]
  simp only [hc.ok]
  have hsz : ¬ ((l.toArray.size ≠ n) || (off + l.toArray.size > z.toArray.size)) = true := by
    simp [h1, hn]; omega
  rw [if_neg (by simpa using hsz)]
  have : l.toArray.zipIdx.foldl (fun (cs : Array Value) (x : Value × Nat) => cs.setIfInBounds (off + x.2) x.1) z.toArray = z'.toArray := by
    rw [h1, h2]
    have := foldl_put l a b c off 0 h4 (by omega)
    simpa using this
  have hf := hf.ok
  rw [← this] at hf
  exact hf⟩

theorem run_pure {P : Program} {α : Type} (a : α) (w : World) : (pure a : Sem α).run P w = .ok a w := rfl

theorem run_mapM_places {P : Program} (w : World) : ∀ (fs : List Field) (pl : List (Nat × Nat)), (fs.map fun f => (P.info? f.type).map fun i => (f.offset, i.size)) = pl.map some →
    (fs.mapM fun f => do pure (f.offset, ← sizeOf f.type) : Sem (List (Nat × Nat))).run P w = .ok pl w
  | [], [], _ => by simp [pure, Sem.run]
  | [], _ :: _, h => by simp at h
  | _ :: _, [], h => by simp at h
  | f :: fs, p :: pl, h => by
    simp only [List.map_cons, List.cons.injEq] at h
    obtain ⟨h1, h2⟩ := h
    cases hi : P.info? f.type with
    | none => rw [hi] at h1; simp at h1
    | some i =>
      rw [hi] at h1
      simp only [Option.map_some, Option.some.injEq] at h1
      subst h1
      simp only [List.mapM_cons, Sem.run_bind, run_sizeOf hi, Result.andThen_ok, run_pure]
      rw [run_mapM_places w fs pl h2]
      rfl

section
variable {P : Program} {S : WP} {K : Value → WP}
instance Yd.build {t : TypeId} {pl : List (Nat × Nat)} {z out : List Value} {parts : List (Nat × Value)} [hs : TStruct P t pl] [hz : TZero P t z] [hf : Fill pl z parts out] : Yd P S (vBuild t parts) (.agg out.toArray) := ⟨fun w _ => by
  obtain ⟨i, zv, h1, h2, h3⟩ := hz.spec
  have hs := hs.ok
  unfold structB at hs
  cases hu : P.underlying t with
  | none => rw [hu] at hs; cases hs
  | some d =>
    rw [hu] at hs
    cases d <;> try (cases hs; done)
    rename_i fs
    have hm := run_mapM_places (P := P) w fs.toList pl (by simpa using hs)
    unfold vBuild
    refine V_run ?_
    unfold Instr.build
    have hm2 : (fs.mapM fun f => do pure (f.offset, ← sizeOf f.type) : Sem (Array (Nat × Nat))).run P w = .ok pl.toArray w := by
      rw [Array.mapM_eq_mapM_toList, Sem.run_map, hm]; rfl
    simp only [Sem.run_bind, run_zeroValue h1 h2, Result.andThen_ok, runU hu, h3, hm2]
    have := hf.ok
    simp only [List.getElem?_toArray] at *
    rw [this]
    rfl⟩

theorem V_inv {s : Sem Value} {w w' : World} {v : Value} (h : (V s).run P w = .ok (.value v) w') : s.run P w = .ok v w' := by
  unfold V at h
  rw [Sem.run_bind] at h
  cases hs : s.run P w with
  | ok a w1 =>
    rw [hs] at h
    simp only [Result.andThen_ok, pure, Sem.run] at h
    cases h
    rfl
  | halt x w1 => rw [hs] at h; simp at h

theorem G.retc {t b o : Nat} {v : Value} [hy : Yd P S (V (Instr.loadAt t (ptr b o))) v] (hk : G S (K v)) : G S (RetC P t (ptr b o) K) := ⟨fun w hw =>
  ⟨v, V_inv (hy.run w hw), hk.run w hw⟩⟩
end

/-! ### Slices of known length -/
class Parts (i : Nat) (parts : List (Nat × Value)) (sz : Nat) (out : outParam (List Value)) : Prop where
  ok : ∀ (done : List Value) (zs : List Value), done.length = i * sz → zs.length = parts.length * sz → Instr.fill (fun i => some (i * sz, sz)) (done ++ zs).toArray parts = some (done ++ out).toArray
  len : out.length = parts.length * sz
instance Parts.nil {i sz : Nat} : Parts i [] sz [] := ⟨fun done zs h1 h2 => by
  have : zs = [] := List.eq_nil_of_length_eq_zero (by simpa using h2)
  subst this; rfl, by simp⟩
instance Parts.cons {i sz : Nat} {v : Value} {r : List (Nat × Value)} {l o out : List Value} [hc : Cells v l] [hl : LenIs l sz] [hp : Parts (i + 1) r sz o] [ha : App l o out] : Parts i ((i, v) :: r) sz out := ⟨fun done zs h1 h2 => by
  have hn := hl.ok
  have h2' : zs.length = r.length * sz + sz := by rw [h2]; simp [Nat.succ_mul]
  have hsplit : zs = zs.take sz ++ zs.drop sz := (List.take_append_drop sz zs).symm
  unfold Instr.fill
  simp only [hc.ok]
  have hsz : ¬ ((l.toArray.size ≠ sz) || (i * sz + l.toArray.size > (done ++ zs).toArray.size)) = true := by
    simp [hn, h1, h2']
  rw [if_neg (by simpa using hsz)]
  have h3 : l.toArray.zipIdx.foldl (fun (cs : Array Value) (x : Value × Nat) => cs.setIfInBounds (i * sz + x.2) x.1) (done ++ zs).toArray = ((done ++ l) ++ zs.drop sz).toArray := by
    have := foldl_put l done (zs.take sz) (zs.drop sz) (i * sz) 0 (by simp [hn, h2']) (by omega)
    rw [List.append_assoc, ← hsplit] at this
    simpa using this
  have := hp.ok (done ++ l) (zs.drop sz) (by simp [h1, hn, Nat.succ_mul]) (by simp [h2'])
  rw [← h3] at this
  rw [← ha.ok, ← List.append_assoc]
  exact this, by rw [← ha.ok]; simp only [List.length_append, List.length_cons, hp.len, hl.ok, Nat.succ_mul]; omega⟩

class PLen (parts : List (Nat × Value)) (n : Nat) : Prop where
  ok : parts.length = n
instance PLen.nil : PLen [] 0 := ⟨rfl⟩
instance PLen.cons {x : Nat × Value} {r : List (Nat × Value)} {n : Nat} [h : PLen r n] : PLen (x :: r) (n + 1) := ⟨by simp [h.ok]⟩

section
variable {P : Program} {w0 : World} {h0 h : Hp} {L : List Itm} {K : Value → WP}
theorem TSlice.spec {t e sz by_ : Nat} (h : TSlice P t e sz by_) : ∃ i, P.underlying t = some (.slice e) ∧ P.info? e = some i ∧ i.size = sz ∧ i.bytes = by_ ∧ sz ≠ 0 := by
  have h := h.ok
  unfold sliceB at h
  cases hu : P.underlying t with
  | none => rw [hu] at h; cases h
  | some d =>
    rw [hu] at h
    cases d <;> try (cases h; done)
    rename_i e'
    cases hi : P.info? e with
    | none => rw [hi] at h; cases h
    | some i =>
      rw [hi] at h
      simp only [Bool.and_eq_true, Bool.not_eq_true'] at h
      obtain ⟨⟨⟨h1, h2⟩, h3⟩, h4⟩ := h
      have e1 := Nat.eq_of_beq_eq_true h1
      subst e1
      exact ⟨i, rfl, rfl, Nat.eq_of_beq_eq_true h2, Nat.eq_of_beq_eq_true h3, fun e => by subst e; cases h4⟩

theorem Gs.buildSlice {t e sz by_ n : Nat} {parts : List (Nat × Value)} {z out : List Value} [ht : TSlice P t e sz by_] [hz : TZero P e z] [hp : Parts 0 parts sz out] [hn : PLen parts n] (hsmall : n * sz ≤ 16777216)
    (hk : ∀ b, Gs w0 h0 h (.sl (.slice (some ⟨b, 0, none⟩) n n) e sz out :: L) (K (.slice (some ⟨b, 0, none⟩) n n))) : Gs w0 h0 h L (Do P (vBuildSlice t n parts) K) := ⟨fun w s => by
  obtain ⟨i, h1, h2, h3, h4, h5⟩ := ht.spec
  obtain ⟨i', zv, h6, h7, h8⟩ := hz.spec
  have hnn := hn.ok
  have hout := hp.len
  have hr : (vBuildSlice t n parts).run P w = .ok (.value (.slice (some ⟨w.heap.size, 0, none⟩) n n)) (w.alloc (.cells out.toArray e)) := by
    unfold vBuildSlice V Instr.buildSlice
    simp only [Sem.run_bind, runU h1, Result.andThen_ok, run_sizeOf h2, h3]
    rw [if_neg (by omega)]
    have fin : ∀ cells : Array Value, cells.size = n * sz → ((match Instr.fill (fun i => some (i * sz, sz)) cells parts with
        | some cells => do pure (Value.slice (some (← newRow e cells)) n n)
        | _ => stuck "buildSlice: a part of the wrong size" : Sem Value).run P w).andThen (fun a w' => Sem.run P (pure (Next.value a)) w') = .ok (.value (.slice (some ⟨w.heap.size, 0, none⟩) n n)) (w.alloc (.cells out.toArray e)) := fun cells hc => by
      have := hp.ok [] cells.toList (by simp) (by simp [hc, hnn])
      simp only [List.nil_append, Array.toArray_toList] at this
      rw [this]
      rfl
    by_cases hz0 : n * sz = 0
    · rw [if_pos hz0]
      exact fin _ (by simp [hz0])
    · rw [if_neg hz0]
      simp only [Sem.run_bind, run_zeroValue h6 h7, Result.andThen_ok]
      exact fin _ (by simp)
  refine Do.of hr ((hk _).run _ (s.alloc _ (.sl _ e sz out) (fun hp' hb => .inr ⟨w.heap.size, 0, n, n, [], [], rfl, by simpa using hb, rfl, by rw [hout, hnn], Nat.le_refl _, by simp⟩) rfl))⟩
end
end Go.Sk
end

