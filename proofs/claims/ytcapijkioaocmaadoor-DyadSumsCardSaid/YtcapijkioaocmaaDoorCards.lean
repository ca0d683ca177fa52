/-
  DERIVED. GIVEN WITH THE SEED: THE CARDS: each row of YtcapijkioaocmaaDoorRows.lean that lists a variable, with what it lists TIED to the program's text (the seventh form; the later family's looks); each row that meets fmt, with fmt's text TOLD by the authors' own Lean function (tested against real Go, not proved from fmt's source: count such statements apart). THE CARD IS WHAT COUNTS. Prove the row's statement (the work); the ties are given (YtcapijkioaocmaaDoorTie.lean); close each card by the builder's one call (the guide's Derived/Test/ToyasCard.lean, 'card_holds'). Laid BY PROGRAM, IN A SANDBOX (cutbox-door.mjs). By AI agents, Wed Nov 11 2026. No macro, syntax, notation, axiom, sorry.
-/
import Derived.Test.YtcapijkioaocmaaDoorRows
import GoSem.ClaimSeven
namespace Go.Proofs.YtcapijkioaocmaaDoor
namespace Rows

/-- THE TIED CARD OF 'skewerlaw19.DyadMatchesReference'. -/
def dyadMatchesReferenceCard : Claim7 := { stood := { row := dyadMatchesReferenceRow, standIns := [], harness := (true, "9b50ac69d6369713c327c7797f9010ff2a7b5094bc6b6029139277170bea8180"), looks := true }, kinds := [], alts := [], laidByText := true, laidKinds := [.data, .data, .data, .sentinel, .sentinel], laidTests := true, laidLooks := .later }
def DyadMatchesReferenceCardSaid : Prop := Claim7.holds Tryd.pinned (.plain (OpenSpec.ofChange dyadMatchesReferenceSpec)) dyadMatchesReferenceCard

/-- THE TIED CARD OF 'skewerlaw19.DyadSums'. -/
def dyadSumsCard : Claim7 := { stood := { row := dyadSumsRow, standIns := [], harness := (true, "9b50ac69d6369713c327c7797f9010ff2a7b5094bc6b6029139277170bea8180"), looks := true }, kinds := [], alts := [], laidByText := true, laidKinds := [.data, .data, .data, .sentinel, .sentinel], laidTests := true, laidLooks := .later }
def DyadSumsCardSaid : Prop := Claim7.holds Tryd.pinned (.plain (OpenSpec.ofChange dyadSumsSpec)) dyadSumsCard

/-- THE TIED CARD OF 'skewerlaw19.DyadOrders'. -/
def dyadOrdersCard : Claim7 := { stood := { row := dyadOrdersRow, standIns := [], harness := (true, "9b50ac69d6369713c327c7797f9010ff2a7b5094bc6b6029139277170bea8180"), looks := true }, kinds := [], alts := [], laidByText := true, laidKinds := [.data, .data, .data, .sentinel, .sentinel], laidTests := true, laidLooks := .later }
def DyadOrdersCardSaid : Prop := Claim7.holds Tryd.pinned (.plain (OpenSpec.ofChange dyadOrdersSpec)) dyadOrdersCard

/-- THE TIED CARD OF 'skewerlaw19.DyadMakes'. -/
def dyadMakesCard : Claim7 := { stood := { row := dyadMakesRow, standIns := [], harness := (true, "9b50ac69d6369713c327c7797f9010ff2a7b5094bc6b6029139277170bea8180"), looks := true }, kinds := [], alts := [], laidByText := true, laidKinds := [.data, .data, .data, .sentinel, .sentinel], laidTests := true, laidLooks := .later }
def DyadMakesCardSaid : Prop := Claim7.holds Tryd.pinned (.plain (OpenSpec.ofChange dyadMakesSpec)) dyadMakesCard

/-- THE TIED CARD OF 'skewerlaw19.DyadBetween'. -/
def dyadBetweenCard : Claim7 := { stood := { row := dyadBetweenRow, standIns := [], harness := (true, "9b50ac69d6369713c327c7797f9010ff2a7b5094bc6b6029139277170bea8180"), looks := true }, kinds := [], alts := [], laidByText := true, laidKinds := [.data, .data, .data, .sentinel, .sentinel], laidTests := true, laidLooks := .later }
def DyadBetweenCardSaid : Prop := Claim7.holds Tryd.pinned (.plain (OpenSpec.ofChange dyadBetweenSpec)) dyadBetweenCard

/-- THE TIED CARD OF 'skewerlaw19.DyadTexts'. -/
def dyadTextsCard : Claim7 := { stood := { row := dyadTextsRow, standIns := [], harness := (true, "9b50ac69d6369713c327c7797f9010ff2a7b5094bc6b6029139277170bea8180"), looks := true }, kinds := [], alts := [], laidByText := true, laidKinds := [.data, .data, .data, .sentinel, .sentinel], laidTests := true, laidLooks := .later }
def DyadTextsCardSaid : Prop := Claim7.holds Tryd.pinned (.plain (OpenSpec.ofChange dyadTextsSpec)) dyadTextsCard

/-- THE TIED CARD OF 'skewerlaw19.DyadParses'. -/
def dyadParsesCard : Claim7 := { stood := { row := dyadParsesRow, standIns := [], harness := (true, "9b50ac69d6369713c327c7797f9010ff2a7b5094bc6b6029139277170bea8180"), looks := true }, kinds := [], alts := [], laidByText := true, laidKinds := [.data, .data, .data, .sentinel, .sentinel], laidTests := true, laidLooks := .later }
def DyadParsesCardSaid : Prop := Claim7.holds Tryd.pinned (.plain (OpenSpec.ofChange dyadParsesSpec)) dyadParsesCard

/-- THE TIED CARD OF 'skewerlaw19.DyadLimits'. -/
def dyadLimitsCard : Claim7 := { stood := { row := dyadLimitsRow, standIns := [], harness := (true, "9b50ac69d6369713c327c7797f9010ff2a7b5094bc6b6029139277170bea8180"), looks := true }, kinds := [], alts := [], laidByText := true, laidKinds := [.data, .data, .data, .sentinel, .sentinel], laidTests := true, laidLooks := .later }
def DyadLimitsCardSaid : Prop := Claim7.holds Tryd.pinned (.plain (OpenSpec.ofChange dyadLimitsSpec)) dyadLimitsCard

/-- THE SECOND FORM's CARD OF 'skewerlaw19.DyadMatchesReference'. -/
def dyadMatchesReferenceUptoCard : Claim7 := { stood := { row := dyadMatchesReferenceUptoRow, standIns := [], harness := (true, "9b50ac69d6369713c327c7797f9010ff2a7b5094bc6b6029139277170bea8180"), looks := true }, kinds := [], alts := [], laidByText := true, laidKinds := [.data, .data, .data, .sentinel, .sentinel], laidTests := true, laidLooks := .later }
def DyadMatchesReferenceUptoCardSaid : Prop := Claim7.holds Tryd.pinned (.plain (OpenSpec.upto dyadMatchesReferenceSpec)) dyadMatchesReferenceUptoCard

/-- THE SECOND FORM's CARD OF 'skewerlaw19.DyadSums'. -/
def dyadSumsUptoCard : Claim7 := { stood := { row := dyadSumsUptoRow, standIns := [], harness := (true, "9b50ac69d6369713c327c7797f9010ff2a7b5094bc6b6029139277170bea8180"), looks := true }, kinds := [], alts := [], laidByText := true, laidKinds := [.data, .data, .data, .sentinel, .sentinel], laidTests := true, laidLooks := .later }
def DyadSumsUptoCardSaid : Prop := Claim7.holds Tryd.pinned (.plain (OpenSpec.upto dyadSumsSpec)) dyadSumsUptoCard

/-- THE SECOND FORM's CARD OF 'skewerlaw19.DyadOrders'. -/
def dyadOrdersUptoCard : Claim7 := { stood := { row := dyadOrdersUptoRow, standIns := [], harness := (true, "9b50ac69d6369713c327c7797f9010ff2a7b5094bc6b6029139277170bea8180"), looks := true }, kinds := [], alts := [], laidByText := true, laidKinds := [.data, .data, .data, .sentinel, .sentinel], laidTests := true, laidLooks := .later }
def DyadOrdersUptoCardSaid : Prop := Claim7.holds Tryd.pinned (.plain (OpenSpec.upto dyadOrdersSpec)) dyadOrdersUptoCard

/-- THE SECOND FORM's CARD OF 'skewerlaw19.DyadMakes'. -/
def dyadMakesUptoCard : Claim7 := { stood := { row := dyadMakesUptoRow, standIns := [], harness := (true, "9b50ac69d6369713c327c7797f9010ff2a7b5094bc6b6029139277170bea8180"), looks := true }, kinds := [], alts := [], laidByText := true, laidKinds := [.data, .data, .data, .sentinel, .sentinel], laidTests := true, laidLooks := .later }
def DyadMakesUptoCardSaid : Prop := Claim7.holds Tryd.pinned (.plain (OpenSpec.upto dyadMakesSpec)) dyadMakesUptoCard

/-- THE SECOND FORM's CARD OF 'skewerlaw19.DyadBetween'. -/
def dyadBetweenUptoCard : Claim7 := { stood := { row := dyadBetweenUptoRow, standIns := [], harness := (true, "9b50ac69d6369713c327c7797f9010ff2a7b5094bc6b6029139277170bea8180"), looks := true }, kinds := [], alts := [], laidByText := true, laidKinds := [.data, .data, .data, .sentinel, .sentinel], laidTests := true, laidLooks := .later }
def DyadBetweenUptoCardSaid : Prop := Claim7.holds Tryd.pinned (.plain (OpenSpec.upto dyadBetweenSpec)) dyadBetweenUptoCard

/-- THE SECOND FORM's CARD OF 'skewerlaw19.DyadTexts'. -/
def dyadTextsUptoCard : Claim7 := { stood := { row := dyadTextsUptoRow, standIns := [], harness := (true, "9b50ac69d6369713c327c7797f9010ff2a7b5094bc6b6029139277170bea8180"), looks := true }, kinds := [], alts := [], laidByText := true, laidKinds := [.data, .data, .data, .sentinel, .sentinel], laidTests := true, laidLooks := .later }
def DyadTextsUptoCardSaid : Prop := Claim7.holds Tryd.pinned (.plain (OpenSpec.upto dyadTextsSpec)) dyadTextsUptoCard

/-- THE SECOND FORM's CARD OF 'skewerlaw19.DyadParses'. -/
def dyadParsesUptoCard : Claim7 := { stood := { row := dyadParsesUptoRow, standIns := [], harness := (true, "9b50ac69d6369713c327c7797f9010ff2a7b5094bc6b6029139277170bea8180"), looks := true }, kinds := [], alts := [], laidByText := true, laidKinds := [.data, .data, .data, .sentinel, .sentinel], laidTests := true, laidLooks := .later }
def DyadParsesUptoCardSaid : Prop := Claim7.holds Tryd.pinned (.plain (OpenSpec.upto dyadParsesSpec)) dyadParsesUptoCard

/-- THE SECOND FORM's CARD OF 'skewerlaw19.DyadLimits'. -/
def dyadLimitsUptoCard : Claim7 := { stood := { row := dyadLimitsUptoRow, standIns := [], harness := (true, "9b50ac69d6369713c327c7797f9010ff2a7b5094bc6b6029139277170bea8180"), looks := true }, kinds := [], alts := [], laidByText := true, laidKinds := [.data, .data, .data, .sentinel, .sentinel], laidTests := true, laidLooks := .later }
def DyadLimitsUptoCardSaid : Prop := Claim7.holds Tryd.pinned (.plain (OpenSpec.upto dyadLimitsSpec)) dyadLimitsUptoCard
end Rows
end Go.Proofs.YtcapijkioaocmaaDoor
