/-
  No cell of these rows narrows 'for every input' (looked for: loops, veiled, ifaces, maps, wideKeys, modest, calm, conditions, laid).
  DERIVED. THE GIVEN ROWS OF THIS SEAT. 8 by the template 'for every input the law returns true; each argument reads behind the call as it read before'; 0 by the template 'total and deterministic' (their statements: YtnepdmnkhjpnhaaTotals.lean).
  GIVEN WITH THE SEED: the statements are not yours to turn. If you find one false, say at which input.
  Laid BY PROGRAM, IN A SANDBOX (cutbox-rows.mjs): the forced cells as the released guide's own fill.sh prints them over the translation e1370e2448432d3c… (all of the seat's roots in one cut). By AI agents, Wed Nov 11 2026. No macro, syntax, notation, axiom, sorry.
-/
import Derived.Test.YtnepdmnkhjpnhaaChecked
import GoSem.Claim
import GoSem.ClaimJoined
import GoSem.ClaimMapViews
import Derived.JoinedTies
import Derived.KernelRfl
namespace Go.Proofs.Ytnepdmnkhjpnhaa
/- THE CELL 'sum', in the pinned program and in every row, IS THE sha256 OF THE DUMP (.gsa) THAT YtnepdmnkhjpnhaaProg.lean LOADS. Nothing in Lean hashes anything: it is a label: what it is worth is what the hold of that sum in a sandbox is worth. -/
noncomputable def Try.pinned : Pinned := { name := "ytnepdmnkhjpnhaa", sum := "e1370e2448432d3ca88c49fd91c80679a17115dfb36903dd937f9ba1544d3697", checked := Try.checked }
namespace Rows
def none {H : Type} : Left H := { results := [], args := [] }

/-- 'skewerlaw21.LoopyMatchesReference': WHATEVER THE INPUT: true; the input reads as it did. -/
def loopyMatchesReferenceSpec : ChangeSpec := { name := "loopyMatchesReference", fn := fun _ => fun
  | [d1, d2, d3] => { results := [.lit (.bool true)], args := [d1, d2, d3] }
  | _ => none }
def loopyMatchesReferenceRow : OpenClaim := { program := "ytnepdmnkhjpnhaa", sum := "e1370e2448432d3ca88c49fd91c80679a17115dfb36903dd937f9ba1544d3697", func := "skewer/skewerlaw21.LoopyMatchesReference", spec := "loopyMatchesReference", unfollowed := true, recurses := true, plainKeys := false, apart := false }
def LoopyMatchesReferenceSaid : Prop := loopyMatchesReferenceRow.holds Try.pinned (OpenSpec.ofChange loopyMatchesReferenceSpec)

/-- ITS FALSE NEIGHBOUR: 'it returns false'. Refute it at one input. -/
def loopyMatchesReferenceWrong : ChangeSpec := { name := "loopyMatchesReference", fn := fun _ => fun
  | [d1, d2, d3] => { results := [.lit (.bool false)], args := [d1, d2, d3] }
  | _ => none }
def LoopyMatchesReferenceWrongFalsely : Prop := loopyMatchesReferenceRow.holds Try.pinned (OpenSpec.ofChange loopyMatchesReferenceWrong)

/-- 'skewerlaw21.LoopyValid': WHATEVER THE INPUT: true; the input reads as it did. -/
def loopyValidSpec : ChangeSpec := { name := "loopyValid", fn := fun _ => fun
  | [d] => { results := [.lit (.bool true)], args := [d] }
  | _ => none }
def loopyValidRow : OpenClaim := { program := "ytnepdmnkhjpnhaa", sum := "e1370e2448432d3ca88c49fd91c80679a17115dfb36903dd937f9ba1544d3697", func := "skewer/skewerlaw21.LoopyValid", spec := "loopyValid", unfollowed := true, recurses := true, plainKeys := false, apart := false }
def LoopyValidSaid : Prop := loopyValidRow.holds Try.pinned (OpenSpec.ofChange loopyValidSpec)

/-- ITS FALSE NEIGHBOUR: 'it returns false'. Refute it at one input. -/
def loopyValidWrong : ChangeSpec := { name := "loopyValid", fn := fun _ => fun
  | [d] => { results := [.lit (.bool false)], args := [d] }
  | _ => none }
def LoopyValidWrongFalsely : Prop := loopyValidRow.holds Try.pinned (OpenSpec.ofChange loopyValidWrong)

/-- 'skewerlaw21.LoopyTurns': WHATEVER THE INPUT: true; the input reads as it did. -/
def loopyTurnsSpec : ChangeSpec := { name := "loopyTurns", fn := fun _ => fun
  | [d1, d2, d3] => { results := [.lit (.bool true)], args := [d1, d2, d3] }
  | _ => none }
def loopyTurnsRow : OpenClaim := { program := "ytnepdmnkhjpnhaa", sum := "e1370e2448432d3ca88c49fd91c80679a17115dfb36903dd937f9ba1544d3697", func := "skewer/skewerlaw21.LoopyTurns", spec := "loopyTurns", unfollowed := true, recurses := true, plainKeys := false, apart := false }
def LoopyTurnsSaid : Prop := loopyTurnsRow.holds Try.pinned (OpenSpec.ofChange loopyTurnsSpec)

/-- ITS FALSE NEIGHBOUR: 'it returns false'. Refute it at one input. -/
def loopyTurnsWrong : ChangeSpec := { name := "loopyTurns", fn := fun _ => fun
  | [d1, d2, d3] => { results := [.lit (.bool false)], args := [d1, d2, d3] }
  | _ => none }
def LoopyTurnsWrongFalsely : Prop := loopyTurnsRow.holds Try.pinned (OpenSpec.ofChange loopyTurnsWrong)

/-- 'skewerlaw21.LoopyProofs': WHATEVER THE INPUT: true; the input reads as it did. -/
def loopyProofsSpec : ChangeSpec := { name := "loopyProofs", fn := fun _ => fun
  | [d1, d2, d3] => { results := [.lit (.bool true)], args := [d1, d2, d3] }
  | _ => none }
def loopyProofsRow : OpenClaim := { program := "ytnepdmnkhjpnhaa", sum := "e1370e2448432d3ca88c49fd91c80679a17115dfb36903dd937f9ba1544d3697", func := "skewer/skewerlaw21.LoopyProofs", spec := "loopyProofs", unfollowed := true, recurses := true, plainKeys := false, apart := false }
def LoopyProofsSaid : Prop := loopyProofsRow.holds Try.pinned (OpenSpec.ofChange loopyProofsSpec)

/-- ITS FALSE NEIGHBOUR: 'it returns false'. Refute it at one input. -/
def loopyProofsWrong : ChangeSpec := { name := "loopyProofs", fn := fun _ => fun
  | [d1, d2, d3] => { results := [.lit (.bool false)], args := [d1, d2, d3] }
  | _ => none }
def LoopyProofsWrongFalsely : Prop := loopyProofsRow.holds Try.pinned (OpenSpec.ofChange loopyProofsWrong)

/-- 'skewerlaw21.LoopySound': WHATEVER THE INPUT: true; the input reads as it did. -/
def loopySoundSpec : ChangeSpec := { name := "loopySound", fn := fun _ => fun
  | [d1, d2, d3] => { results := [.lit (.bool true)], args := [d1, d2, d3] }
  | _ => none }
def loopySoundRow : OpenClaim := { program := "ytnepdmnkhjpnhaa", sum := "e1370e2448432d3ca88c49fd91c80679a17115dfb36903dd937f9ba1544d3697", func := "skewer/skewerlaw21.LoopySound", spec := "loopySound", unfollowed := true, recurses := true, plainKeys := false, apart := false }
def LoopySoundSaid : Prop := loopySoundRow.holds Try.pinned (OpenSpec.ofChange loopySoundSpec)

/-- ITS FALSE NEIGHBOUR: 'it returns false'. Refute it at one input. -/
def loopySoundWrong : ChangeSpec := { name := "loopySound", fn := fun _ => fun
  | [d1, d2, d3] => { results := [.lit (.bool false)], args := [d1, d2, d3] }
  | _ => none }
def LoopySoundWrongFalsely : Prop := loopySoundRow.holds Try.pinned (OpenSpec.ofChange loopySoundWrong)

/-- 'skewerlaw21.LoopyTurned': WHATEVER THE INPUT: true; the input reads as it did. -/
def loopyTurnedSpec : ChangeSpec := { name := "loopyTurned", fn := fun _ => fun
  | [d1, d2, d3] => { results := [.lit (.bool true)], args := [d1, d2, d3] }
  | _ => none }
def loopyTurnedRow : OpenClaim := { program := "ytnepdmnkhjpnhaa", sum := "e1370e2448432d3ca88c49fd91c80679a17115dfb36903dd937f9ba1544d3697", func := "skewer/skewerlaw21.LoopyTurned", spec := "loopyTurned", unfollowed := true, recurses := true, plainKeys := false, apart := false }
def LoopyTurnedSaid : Prop := loopyTurnedRow.holds Try.pinned (OpenSpec.ofChange loopyTurnedSpec)

/-- ITS FALSE NEIGHBOUR: 'it returns false'. Refute it at one input. -/
def loopyTurnedWrong : ChangeSpec := { name := "loopyTurned", fn := fun _ => fun
  | [d1, d2, d3] => { results := [.lit (.bool false)], args := [d1, d2, d3] }
  | _ => none }
def LoopyTurnedWrongFalsely : Prop := loopyTurnedRow.holds Try.pinned (OpenSpec.ofChange loopyTurnedWrong)

/-- 'skewerlaw21.LoopyFree': WHATEVER THE INPUT: true; the input reads as it did. -/
def loopyFreeSpec : ChangeSpec := { name := "loopyFree", fn := fun _ => fun
  | [d1, d2, d3] => { results := [.lit (.bool true)], args := [d1, d2, d3] }
  | _ => none }
def loopyFreeRow : OpenClaim := { program := "ytnepdmnkhjpnhaa", sum := "e1370e2448432d3ca88c49fd91c80679a17115dfb36903dd937f9ba1544d3697", func := "skewer/skewerlaw21.LoopyFree", spec := "loopyFree", unfollowed := true, recurses := true, plainKeys := false, apart := false }
def LoopyFreeSaid : Prop := loopyFreeRow.holds Try.pinned (OpenSpec.ofChange loopyFreeSpec)

/-- ITS FALSE NEIGHBOUR: 'it returns false'. Refute it at one input. -/
def loopyFreeWrong : ChangeSpec := { name := "loopyFree", fn := fun _ => fun
  | [d1, d2, d3] => { results := [.lit (.bool false)], args := [d1, d2, d3] }
  | _ => none }
def LoopyFreeWrongFalsely : Prop := loopyFreeRow.holds Try.pinned (OpenSpec.ofChange loopyFreeWrong)

/-- 'skewerlaw21.LoopyForms': WHATEVER THE INPUT: true; the input reads as it did. -/
def loopyFormsSpec : ChangeSpec := { name := "loopyForms", fn := fun _ => fun
  | [d1, d2, d3] => { results := [.lit (.bool true)], args := [d1, d2, d3] }
  | _ => none }
def loopyFormsRow : OpenClaim := { program := "ytnepdmnkhjpnhaa", sum := "e1370e2448432d3ca88c49fd91c80679a17115dfb36903dd937f9ba1544d3697", func := "skewer/skewerlaw21.LoopyForms", spec := "loopyForms", inPlace := ["internal/abi.NoEscape"], unfollowed := true, recurses := true, plainKeys := false, apart := false }
def LoopyFormsSaid : Prop := loopyFormsRow.holds Try.pinned (OpenSpec.ofChange loopyFormsSpec)

/-- ITS FALSE NEIGHBOUR: 'it returns false'. Refute it at one input. -/
def loopyFormsWrong : ChangeSpec := { name := "loopyForms", fn := fun _ => fun
  | [d1, d2, d3] => { results := [.lit (.bool false)], args := [d1, d2, d3] }
  | _ => none }
def LoopyFormsWrongFalsely : Prop := loopyFormsRow.holds Try.pinned (OpenSpec.ofChange loopyFormsWrong)

/- THE SECOND FORM. 'bulk': how many values and letters a reading holds, each counted each time it is reached (what is shared counts as often as it is met; a slice's spare places count too). A statement '..UptoSaid' is the law's where the arguments, and the package variables that the reading takes, are together of bulk at most 1048576: NARROWER than '..Said'. Prove '..Said' where nothing that the law and all that it calls make is longer than what came in: it says more and counts as full. Else prove '..UptoSaid'. A law counts once. -/
mutual
def uptoBulk {H : Type} : DataW H → Nat
  | .lit (.string bytes) => bytes.length + 1
  | .lit _ => 1
  | .nil => 1
  | .ptr d => uptoBulk d + 1
  | .slice elems spare => uptoBulkAll elems + uptoBulkAll spare + 1
  | .agg parts => uptoBulkAll parts + 1
  | .iface _ d => uptoBulk d + 1
  | .map entries => uptoBulkEntries entries + 1
  | .held _ => 1
def uptoBulkAll {H : Type} : List (DataW H) → Nat
  | [] => 0
  | d :: r => uptoBulk d + uptoBulkAll r
def uptoBulkEntries {H : Type} : List (Lit × DataW H) → Nat
  | [] => 0
  | x :: r => uptoBulkEntry x + uptoBulkEntries r
def uptoBulkEntry {H : Type} : Lit × DataW H → Nat
  | (.string bytes, d) => bytes.length + uptoBulk d + 1
  | (_, d) => uptoBulk d + 1
 end
def uptoSmall : (H : Type) → List (DataW H) → Bool := fun _ ds => decide (uptoBulkAll ds ≤ 1048576)
def OpenSpec.upto (s : _root_.Go.ChangeSpec) : _root_.Go.OpenSpec := { _root_.Go.OpenSpec.ofChange s with cond := some uptoSmall }

/-- 'skewerlaw21.LoopyMatchesReference', WHERE WHAT IT READS IS OF BULK AT MOST 1048576: true; the input reads as it did. -/
def loopyMatchesReferenceUptoRow : OpenClaim := { program := "ytnepdmnkhjpnhaa", sum := "e1370e2448432d3ca88c49fd91c80679a17115dfb36903dd937f9ba1544d3697", func := "skewer/skewerlaw21.LoopyMatchesReference", spec := "loopyMatchesReference", unfollowed := true, recurses := true, plainKeys := false, apart := false, narrowed := true }
def LoopyMatchesReferenceUptoSaid : Prop := loopyMatchesReferenceUptoRow.holds Try.pinned (OpenSpec.upto loopyMatchesReferenceSpec)

/-- 'skewerlaw21.LoopyValid', WHERE WHAT IT READS IS OF BULK AT MOST 1048576: true; the input reads as it did. -/
def loopyValidUptoRow : OpenClaim := { program := "ytnepdmnkhjpnhaa", sum := "e1370e2448432d3ca88c49fd91c80679a17115dfb36903dd937f9ba1544d3697", func := "skewer/skewerlaw21.LoopyValid", spec := "loopyValid", unfollowed := true, recurses := true, plainKeys := false, apart := false, narrowed := true }
def LoopyValidUptoSaid : Prop := loopyValidUptoRow.holds Try.pinned (OpenSpec.upto loopyValidSpec)

/-- 'skewerlaw21.LoopyTurns', WHERE WHAT IT READS IS OF BULK AT MOST 1048576: true; the input reads as it did. -/
def loopyTurnsUptoRow : OpenClaim := { program := "ytnepdmnkhjpnhaa", sum := "e1370e2448432d3ca88c49fd91c80679a17115dfb36903dd937f9ba1544d3697", func := "skewer/skewerlaw21.LoopyTurns", spec := "loopyTurns", unfollowed := true, recurses := true, plainKeys := false, apart := false, narrowed := true }
def LoopyTurnsUptoSaid : Prop := loopyTurnsUptoRow.holds Try.pinned (OpenSpec.upto loopyTurnsSpec)

/-- 'skewerlaw21.LoopyProofs', WHERE WHAT IT READS IS OF BULK AT MOST 1048576: true; the input reads as it did. -/
def loopyProofsUptoRow : OpenClaim := { program := "ytnepdmnkhjpnhaa", sum := "e1370e2448432d3ca88c49fd91c80679a17115dfb36903dd937f9ba1544d3697", func := "skewer/skewerlaw21.LoopyProofs", spec := "loopyProofs", unfollowed := true, recurses := true, plainKeys := false, apart := false, narrowed := true }
def LoopyProofsUptoSaid : Prop := loopyProofsUptoRow.holds Try.pinned (OpenSpec.upto loopyProofsSpec)

/-- 'skewerlaw21.LoopySound', WHERE WHAT IT READS IS OF BULK AT MOST 1048576: true; the input reads as it did. -/
def loopySoundUptoRow : OpenClaim := { program := "ytnepdmnkhjpnhaa", sum := "e1370e2448432d3ca88c49fd91c80679a17115dfb36903dd937f9ba1544d3697", func := "skewer/skewerlaw21.LoopySound", spec := "loopySound", unfollowed := true, recurses := true, plainKeys := false, apart := false, narrowed := true }
def LoopySoundUptoSaid : Prop := loopySoundUptoRow.holds Try.pinned (OpenSpec.upto loopySoundSpec)

/-- 'skewerlaw21.LoopyTurned', WHERE WHAT IT READS IS OF BULK AT MOST 1048576: true; the input reads as it did. -/
def loopyTurnedUptoRow : OpenClaim := { program := "ytnepdmnkhjpnhaa", sum := "e1370e2448432d3ca88c49fd91c80679a17115dfb36903dd937f9ba1544d3697", func := "skewer/skewerlaw21.LoopyTurned", spec := "loopyTurned", unfollowed := true, recurses := true, plainKeys := false, apart := false, narrowed := true }
def LoopyTurnedUptoSaid : Prop := loopyTurnedUptoRow.holds Try.pinned (OpenSpec.upto loopyTurnedSpec)

/-- 'skewerlaw21.LoopyFree', WHERE WHAT IT READS IS OF BULK AT MOST 1048576: true; the input reads as it did. -/
def loopyFreeUptoRow : OpenClaim := { program := "ytnepdmnkhjpnhaa", sum := "e1370e2448432d3ca88c49fd91c80679a17115dfb36903dd937f9ba1544d3697", func := "skewer/skewerlaw21.LoopyFree", spec := "loopyFree", unfollowed := true, recurses := true, plainKeys := false, apart := false, narrowed := true }
def LoopyFreeUptoSaid : Prop := loopyFreeUptoRow.holds Try.pinned (OpenSpec.upto loopyFreeSpec)

/-- 'skewerlaw21.LoopyForms', WHERE WHAT IT READS IS OF BULK AT MOST 1048576: true; the input reads as it did. -/
def loopyFormsUptoRow : OpenClaim := { program := "ytnepdmnkhjpnhaa", sum := "e1370e2448432d3ca88c49fd91c80679a17115dfb36903dd937f9ba1544d3697", func := "skewer/skewerlaw21.LoopyForms", spec := "loopyForms", inPlace := ["internal/abi.NoEscape"], unfollowed := true, recurses := true, plainKeys := false, apart := false, narrowed := true }
def LoopyFormsUptoSaid : Prop := loopyFormsUptoRow.holds Try.pinned (OpenSpec.upto loopyFormsSpec)

end Rows
end Go.Proofs.Ytnepdmnkhjpnhaa
