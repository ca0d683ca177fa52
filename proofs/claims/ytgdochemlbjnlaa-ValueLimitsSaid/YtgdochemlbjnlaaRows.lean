/-
  No cell of these rows narrows 'for every input' (looked for: loops, veiled, ifaces, maps, wideKeys, modest, calm, conditions, laid).
  DERIVED. THE GIVEN ROWS OF THIS SEAT. 7 by the template 'for every input the law returns true; each argument reads behind the call as it read before'; 0 by the template 'total and deterministic' (their statements: YtgdochemlbjnlaaTotals.lean).
  GIVEN WITH THE SEED: the statements are not yours to turn. If you find one false, say at which input.
  Laid BY PROGRAM, IN A SANDBOX (cutbox-rows.mjs): the forced cells as the released guide's own fill.sh prints them over the translation dff476a585420a55… (all of the seat's roots in one cut). By AI agents, Wed Nov 11 2026. No macro, syntax, notation, axiom, sorry.
-/
import Derived.Test.YtgdochemlbjnlaaChecked
import GoSem.Claim
import GoSem.ClaimJoined
import GoSem.ClaimMapViews
import Derived.JoinedTies
import Derived.KernelRfl
namespace Go.Proofs.Ytgdochemlbjnlaa
/- THE CELL 'sum', in the pinned program and in every row, IS THE sha256 OF THE DUMP (.gsa) THAT YtgdochemlbjnlaaProg.lean LOADS. Nothing in Lean hashes anything: it is a label: what it is worth is what the hold of that sum in a sandbox is worth. -/
noncomputable def Try.pinned : Pinned := { name := "ytgdochemlbjnlaa", sum := "dff476a585420a550b37f53d144b48496830548b83358c37c445cede37c92161", checked := Try.checked }
namespace Rows
def none {H : Type} : Left H := { results := [], args := [] }

/-- 'skewerlaw20.ValueOrder': WHATEVER THE INPUT: true; the input reads as it did. -/
def valueOrderSpec : ChangeSpec := { name := "valueOrder", fn := fun _ => fun
  | [d] => { results := [.lit (.bool true)], args := [d] }
  | _ => none }
def valueOrderRow : OpenClaim := { program := "ytgdochemlbjnlaa", sum := "dff476a585420a550b37f53d144b48496830548b83358c37c445cede37c92161", func := "skewer/skewerlaw20.ValueOrder", spec := "valueOrder", inPlace := ["internal/abi.NoEscape", "internal/bytealg.abigen_runtime_cmpstring"], unfollowed := true, recurses := true, plainKeys := false, apart := false }
def ValueOrderSaid : Prop := valueOrderRow.holds Try.pinned (OpenSpec.ofChange valueOrderSpec)

/-- ITS FALSE NEIGHBOUR: 'it returns false'. Refute it at one input. -/
def valueOrderWrong : ChangeSpec := { name := "valueOrder", fn := fun _ => fun
  | [d] => { results := [.lit (.bool false)], args := [d] }
  | _ => none }
def ValueOrderWrongFalsely : Prop := valueOrderRow.holds Try.pinned (OpenSpec.ofChange valueOrderWrong)

/-- 'skewerlaw20.ValueSums': WHATEVER THE INPUT: true; the input reads as it did. -/
def valueSumsSpec : ChangeSpec := { name := "valueSums", fn := fun _ => fun
  | [d] => { results := [.lit (.bool true)], args := [d] }
  | _ => none }
def valueSumsRow : OpenClaim := { program := "ytgdochemlbjnlaa", sum := "dff476a585420a550b37f53d144b48496830548b83358c37c445cede37c92161", func := "skewer/skewerlaw20.ValueSums", spec := "valueSums", inPlace := ["internal/abi.NoEscape", "internal/bytealg.abigen_runtime_cmpstring"], unfollowed := true, recurses := true, plainKeys := false, apart := false }
def ValueSumsSaid : Prop := valueSumsRow.holds Try.pinned (OpenSpec.ofChange valueSumsSpec)

/-- ITS FALSE NEIGHBOUR: 'it returns false'. Refute it at one input. -/
def valueSumsWrong : ChangeSpec := { name := "valueSums", fn := fun _ => fun
  | [d] => { results := [.lit (.bool false)], args := [d] }
  | _ => none }
def ValueSumsWrongFalsely : Prop := valueSumsRow.holds Try.pinned (OpenSpec.ofChange valueSumsWrong)

/-- 'skewerlaw20.ValueCanon': WHATEVER THE INPUT: true; the input reads as it did. -/
def valueCanonSpec : ChangeSpec := { name := "valueCanon", fn := fun _ => fun
  | [d1, d2] => { results := [.lit (.bool true)], args := [d1, d2] }
  | _ => none }
def valueCanonRow : OpenClaim := { program := "ytgdochemlbjnlaa", sum := "dff476a585420a550b37f53d144b48496830548b83358c37c445cede37c92161", func := "skewer/skewerlaw20.ValueCanon", spec := "valueCanon", inPlace := ["internal/abi.NoEscape", "internal/bytealg.abigen_runtime_cmpstring"], unfollowed := true, recurses := true, plainKeys := false, apart := false }
def ValueCanonSaid : Prop := valueCanonRow.holds Try.pinned (OpenSpec.ofChange valueCanonSpec)

/-- ITS FALSE NEIGHBOUR: 'it returns false'. Refute it at one input. -/
def valueCanonWrong : ChangeSpec := { name := "valueCanon", fn := fun _ => fun
  | [d1, d2] => { results := [.lit (.bool false)], args := [d1, d2] }
  | _ => none }
def ValueCanonWrongFalsely : Prop := valueCanonRow.holds Try.pinned (OpenSpec.ofChange valueCanonWrong)

/-- 'skewerlaw20.ValueNumbers': WHATEVER THE INPUT: true; the input reads as it did. -/
def valueNumbersSpec : ChangeSpec := { name := "valueNumbers", fn := fun _ => fun
  | [d1, d2] => { results := [.lit (.bool true)], args := [d1, d2] }
  | _ => none }
def valueNumbersRow : OpenClaim := { program := "ytgdochemlbjnlaa", sum := "dff476a585420a550b37f53d144b48496830548b83358c37c445cede37c92161", func := "skewer/skewerlaw20.ValueNumbers", spec := "valueNumbers", inPlace := ["internal/abi.NoEscape", "internal/bytealg.abigen_runtime_cmpstring"], unfollowed := true, recurses := true, plainKeys := false, apart := false }
def ValueNumbersSaid : Prop := valueNumbersRow.holds Try.pinned (OpenSpec.ofChange valueNumbersSpec)

/-- ITS FALSE NEIGHBOUR: 'it returns false'. Refute it at one input. -/
def valueNumbersWrong : ChangeSpec := { name := "valueNumbers", fn := fun _ => fun
  | [d1, d2] => { results := [.lit (.bool false)], args := [d1, d2] }
  | _ => none }
def ValueNumbersWrongFalsely : Prop := valueNumbersRow.holds Try.pinned (OpenSpec.ofChange valueNumbersWrong)

/-- 'skewerlaw20.ValueWinners': WHATEVER THE INPUT: true; the input reads as it did. -/
def valueWinnersSpec : ChangeSpec := { name := "valueWinners", fn := fun _ => fun
  | [d] => { results := [.lit (.bool true)], args := [d] }
  | _ => none }
def valueWinnersRow : OpenClaim := { program := "ytgdochemlbjnlaa", sum := "dff476a585420a550b37f53d144b48496830548b83358c37c445cede37c92161", func := "skewer/skewerlaw20.ValueWinners", spec := "valueWinners", inPlace := ["internal/abi.NoEscape", "internal/bytealg.abigen_runtime_cmpstring"], unfollowed := true, recurses := true, plainKeys := false, apart := false }
def ValueWinnersSaid : Prop := valueWinnersRow.holds Try.pinned (OpenSpec.ofChange valueWinnersSpec)

/-- ITS FALSE NEIGHBOUR: 'it returns false'. Refute it at one input. -/
def valueWinnersWrong : ChangeSpec := { name := "valueWinners", fn := fun _ => fun
  | [d] => { results := [.lit (.bool false)], args := [d] }
  | _ => none }
def ValueWinnersWrongFalsely : Prop := valueWinnersRow.holds Try.pinned (OpenSpec.ofChange valueWinnersWrong)

/-- 'skewerlaw20.ValueTexts': WHATEVER THE INPUT: true; the input reads as it did. -/
def valueTextsSpec : ChangeSpec := { name := "valueTexts", fn := fun _ => fun
  | [d1, d2] => { results := [.lit (.bool true)], args := [d1, d2] }
  | _ => none }
def valueTextsRow : OpenClaim := { program := "ytgdochemlbjnlaa", sum := "dff476a585420a550b37f53d144b48496830548b83358c37c445cede37c92161", func := "skewer/skewerlaw20.ValueTexts", spec := "valueTexts", inPlace := ["internal/abi.NoEscape", "internal/bytealg.abigen_runtime_cmpstring"], unfollowed := true, recurses := true, plainKeys := false, apart := false }
def ValueTextsSaid : Prop := valueTextsRow.holds Try.pinned (OpenSpec.ofChange valueTextsSpec)

/-- ITS FALSE NEIGHBOUR: 'it returns false'. Refute it at one input. -/
def valueTextsWrong : ChangeSpec := { name := "valueTexts", fn := fun _ => fun
  | [d1, d2] => { results := [.lit (.bool false)], args := [d1, d2] }
  | _ => none }
def ValueTextsWrongFalsely : Prop := valueTextsRow.holds Try.pinned (OpenSpec.ofChange valueTextsWrong)

/-- 'skewerlaw20.ValueLimits': WHATEVER THE INPUT: true; the input reads as it did. -/
def valueLimitsSpec : ChangeSpec := { name := "valueLimits", fn := fun _ => fun
  | [d1, d2] => { results := [.lit (.bool true)], args := [d1, d2] }
  | _ => none }
def valueLimitsRow : OpenClaim := { program := "ytgdochemlbjnlaa", sum := "dff476a585420a550b37f53d144b48496830548b83358c37c445cede37c92161", func := "skewer/skewerlaw20.ValueLimits", spec := "valueLimits", inPlace := ["internal/abi.NoEscape", "internal/bytealg.abigen_runtime_cmpstring"], unfollowed := true, recurses := true, plainKeys := false, apart := false }
def ValueLimitsSaid : Prop := valueLimitsRow.holds Try.pinned (OpenSpec.ofChange valueLimitsSpec)

/-- ITS FALSE NEIGHBOUR: 'it returns false'. Refute it at one input. -/
def valueLimitsWrong : ChangeSpec := { name := "valueLimits", fn := fun _ => fun
  | [d1, d2] => { results := [.lit (.bool false)], args := [d1, d2] }
  | _ => none }
def ValueLimitsWrongFalsely : Prop := valueLimitsRow.holds Try.pinned (OpenSpec.ofChange valueLimitsWrong)

/- THE SECOND FORM. 'bulk': how many values and letters a reading holds, each counted each time it is reached (what is shared counts as often as it is met; a slice's spare places count too). A statement '..UptoSaid' is the law's where the arguments, and the package variables that the reading takes, are together of bulk at most 1048576: NARROWER than '..Said'. Prove '..Said' where nothing that the law and all that it calls make is longer than what came in: it says more and counts as full. Else prove '..UptoSaid'. A law counts once. -/
mutual
def uptoBulk {H : Type} : DataW H → Nat
  | .lit (.string bytes) => bytes.length + 1
  | .lit _ => 1
  | .nil => 1
  | .ptr d => uptoBulk d + 1
  | .slice elems spare => uptoBulkAll elems + uptoBulkAll spare + 1
  | .agg parts => uptoBulkAll parts + 1
  | .iface _ d => uptoBulk d + 1
  | .map entries => uptoBulkEntries entries + 1
  | .held _ => 1
def uptoBulkAll {H : Type} : List (DataW H) → Nat
  | [] => 0
  | d :: r => uptoBulk d + uptoBulkAll r
def uptoBulkEntries {H : Type} : List (Lit × DataW H) → Nat
  | [] => 0
  | x :: r => uptoBulkEntry x + uptoBulkEntries r
def uptoBulkEntry {H : Type} : Lit × DataW H → Nat
  | (.string bytes, d) => bytes.length + uptoBulk d + 1
  | (_, d) => uptoBulk d + 1
 end
def uptoSmall : (H : Type) → List (DataW H) → Bool := fun _ ds => decide (uptoBulkAll ds ≤ 1048576)
def OpenSpec.upto (s : _root_.Go.ChangeSpec) : _root_.Go.OpenSpec := { _root_.Go.OpenSpec.ofChange s with cond := some uptoSmall }

/-- 'skewerlaw20.ValueOrder', WHERE WHAT IT READS IS OF BULK AT MOST 1048576: true; the input reads as it did. -/
def valueOrderUptoRow : OpenClaim := { program := "ytgdochemlbjnlaa", sum := "dff476a585420a550b37f53d144b48496830548b83358c37c445cede37c92161", func := "skewer/skewerlaw20.ValueOrder", spec := "valueOrder", inPlace := ["internal/abi.NoEscape", "internal/bytealg.abigen_runtime_cmpstring"], unfollowed := true, recurses := true, plainKeys := false, apart := false, narrowed := true }
def ValueOrderUptoSaid : Prop := valueOrderUptoRow.holds Try.pinned (OpenSpec.upto valueOrderSpec)

/-- 'skewerlaw20.ValueSums', WHERE WHAT IT READS IS OF BULK AT MOST 1048576: true; the input reads as it did. -/
def valueSumsUptoRow : OpenClaim := { program := "ytgdochemlbjnlaa", sum := "dff476a585420a550b37f53d144b48496830548b83358c37c445cede37c92161", func := "skewer/skewerlaw20.ValueSums", spec := "valueSums", inPlace := ["internal/abi.NoEscape", "internal/bytealg.abigen_runtime_cmpstring"], unfollowed := true, recurses := true, plainKeys := false, apart := false, narrowed := true }
def ValueSumsUptoSaid : Prop := valueSumsUptoRow.holds Try.pinned (OpenSpec.upto valueSumsSpec)

/-- 'skewerlaw20.ValueCanon', WHERE WHAT IT READS IS OF BULK AT MOST 1048576: true; the input reads as it did. -/
def valueCanonUptoRow : OpenClaim := { program := "ytgdochemlbjnlaa", sum := "dff476a585420a550b37f53d144b48496830548b83358c37c445cede37c92161", func := "skewer/skewerlaw20.ValueCanon", spec := "valueCanon", inPlace := ["internal/abi.NoEscape", "internal/bytealg.abigen_runtime_cmpstring"], unfollowed := true, recurses := true, plainKeys := false, apart := false, narrowed := true }
def ValueCanonUptoSaid : Prop := valueCanonUptoRow.holds Try.pinned (OpenSpec.upto valueCanonSpec)

/-- 'skewerlaw20.ValueNumbers', WHERE WHAT IT READS IS OF BULK AT MOST 1048576: true; the input reads as it did. -/
def valueNumbersUptoRow : OpenClaim := { program := "ytgdochemlbjnlaa", sum := "dff476a585420a550b37f53d144b48496830548b83358c37c445cede37c92161", func := "skewer/skewerlaw20.ValueNumbers", spec := "valueNumbers", inPlace := ["internal/abi.NoEscape", "internal/bytealg.abigen_runtime_cmpstring"], unfollowed := true, recurses := true, plainKeys := false, apart := false, narrowed := true }
def ValueNumbersUptoSaid : Prop := valueNumbersUptoRow.holds Try.pinned (OpenSpec.upto valueNumbersSpec)

/-- 'skewerlaw20.ValueWinners', WHERE WHAT IT READS IS OF BULK AT MOST 1048576: true; the input reads as it did. -/
def valueWinnersUptoRow : OpenClaim := { program := "ytgdochemlbjnlaa", sum := "dff476a585420a550b37f53d144b48496830548b83358c37c445cede37c92161", func := "skewer/skewerlaw20.ValueWinners", spec := "valueWinners", inPlace := ["internal/abi.NoEscape", "internal/bytealg.abigen_runtime_cmpstring"], unfollowed := true, recurses := true, plainKeys := false, apart := false, narrowed := true }
def ValueWinnersUptoSaid : Prop := valueWinnersUptoRow.holds Try.pinned (OpenSpec.upto valueWinnersSpec)

/-- 'skewerlaw20.ValueTexts', WHERE WHAT IT READS IS OF BULK AT MOST 1048576: true; the input reads as it did. -/
def valueTextsUptoRow : OpenClaim := { program := "ytgdochemlbjnlaa", sum := "dff476a585420a550b37f53d144b48496830548b83358c37c445cede37c92161", func := "skewer/skewerlaw20.ValueTexts", spec := "valueTexts", inPlace := ["internal/abi.NoEscape", "internal/bytealg.abigen_runtime_cmpstring"], unfollowed := true, recurses := true, plainKeys := false, apart := false, narrowed := true }
def ValueTextsUptoSaid : Prop := valueTextsUptoRow.holds Try.pinned (OpenSpec.upto valueTextsSpec)

/-- 'skewerlaw20.ValueLimits', WHERE WHAT IT READS IS OF BULK AT MOST 1048576: true; the input reads as it did. -/
def valueLimitsUptoRow : OpenClaim := { program := "ytgdochemlbjnlaa", sum := "dff476a585420a550b37f53d144b48496830548b83358c37c445cede37c92161", func := "skewer/skewerlaw20.ValueLimits", spec := "valueLimits", inPlace := ["internal/abi.NoEscape", "internal/bytealg.abigen_runtime_cmpstring"], unfollowed := true, recurses := true, plainKeys := false, apart := false, narrowed := true }
def ValueLimitsUptoSaid : Prop := valueLimitsUptoRow.holds Try.pinned (OpenSpec.upto valueLimitsSpec)

end Rows
end Go.Proofs.Ytgdochemlbjnlaa
