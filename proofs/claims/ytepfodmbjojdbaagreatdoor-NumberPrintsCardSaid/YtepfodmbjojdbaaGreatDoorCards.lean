/-
  DERIVED. GIVEN WITH THE SEED: THE CARDS: each row of YtepfodmbjojdbaaGreatDoorRows.lean that lists a variable, with what it lists TIED to the program's text (the seventh form; the later family's looks); each row that meets fmt, with fmt's text TOLD by the authors' own Lean function (tested against real Go, not proved from fmt's source: count such statements apart). THE CARD IS WHAT COUNTS. Prove the row's statement (the work); the ties are given (YtepfodmbjojdbaaGreatDoorTie.lean); close each card by the builder's one call (the guide's Derived/Test/ToyasCard.lean, 'card_holds'). Laid BY PROGRAM, IN A SANDBOX (cutbox-door.mjs). By AI agents, Wed Nov 11 2026. No macro, syntax, notation, axiom, sorry.
-/
import Derived.Test.YtepfodmbjojdbaaGreatDoorRows
import GoSem.ClaimSeven
namespace Go.Proofs.YtepfodmbjojdbaaGreatDoor
namespace Rows

/-- THE TIED CARD OF 'stencillaw03.NumberPrints'. -/
def numberPrintsCard : Claim7 := { stood := { row := numberPrintsRow, standIns := [], harness := (true, "76578f4ab134200cbc9f192e7831cfba2409380b73d4ae9465fd8b2994949d00"), looks := true }, kinds := [], alts := [], laidByText := true, laidKinds := [.data, .data, .widerDeep, .widerDeep, .data, .data, .data, .data, .data, .data, .sentinel, .sentinel, .data, .data, .pinned, .pinned, .pinned, .pinned], laidTests := true, laidLooks := .later }
def NumberPrintsCardSaid : Prop := Claim7.holds Tryz.pinned (.plain (OpenSpec.ofChange numberPrintsSpec)) numberPrintsCard

/-- THE TIED CARD OF 'stencillaw03.NumberFloats'. -/
def numberFloatsCard : Claim7 := { stood := { row := numberFloatsRow, standIns := [], harness := (true, "76578f4ab134200cbc9f192e7831cfba2409380b73d4ae9465fd8b2994949d00"), looks := true }, kinds := [], alts := [], laidByText := true, laidKinds := [.data, .data, .widerDeep, .widerDeep, .data, .data, .data, .data, .data, .data, .sentinel, .sentinel, .data, .data, .pinned, .pinned, .pinned, .pinned], laidTests := true, laidLooks := .later }
def NumberFloatsCardSaid : Prop := Claim7.holds Tryz.pinned (.plain (OpenSpec.ofChange numberFloatsSpec)) numberFloatsCard

/-- THE TIED CARD OF 'stencillaw03.NumberParses'. -/
def numberParsesCard : Claim7 := { stood := { row := numberParsesRow, standIns := [], harness := (true, "76578f4ab134200cbc9f192e7831cfba2409380b73d4ae9465fd8b2994949d00"), looks := true }, kinds := [], alts := [], laidByText := true, laidKinds := [.data, .data, .widerDeep, .widerDeep, .data, .data, .data, .data, .data, .data, .sentinel, .sentinel, .data, .data, .pinned, .pinned, .pinned, .pinned], laidTests := true, laidLooks := .later }
def NumberParsesCardSaid : Prop := Claim7.holds Tryz.pinned (.plain (OpenSpec.ofChange numberParsesSpec)) numberParsesCard

/-- THE TIED CARD OF 'stencillaw03.NumberBack'. -/
def numberBackCard : Claim7 := { stood := { row := numberBackRow, standIns := [], harness := (true, "76578f4ab134200cbc9f192e7831cfba2409380b73d4ae9465fd8b2994949d00"), looks := true }, kinds := [], alts := [], laidByText := true, laidKinds := [.data, .data, .widerDeep, .widerDeep, .data, .data, .data, .data, .data, .data, .sentinel, .sentinel, .data, .data, .pinned, .pinned, .pinned, .pinned], laidTests := true, laidLooks := .later }
def NumberBackCardSaid : Prop := Claim7.holds Tryz.pinned (.plain (OpenSpec.ofChange numberBackSpec)) numberBackCard

/-- THE TIED CARD OF 'stencillaw03.NumberLists'. -/
def numberListsCard : Claim7 := { stood := { row := numberListsRow, standIns := [], harness := (true, "76578f4ab134200cbc9f192e7831cfba2409380b73d4ae9465fd8b2994949d00"), looks := true }, kinds := [], alts := [], laidByText := true, laidKinds := [.data, .data, .widerDeep, .widerDeep, .data, .data, .data, .data, .data, .data, .sentinel, .sentinel, .data, .data, .pinned, .pinned, .pinned, .pinned], laidTests := true, laidLooks := .later }
def NumberListsCardSaid : Prop := Claim7.holds Tryz.pinned (.plain (OpenSpec.ofChange numberListsSpec)) numberListsCard

/-- THE SECOND FORM's CARD OF 'stencillaw03.NumberPrints'. -/
def numberPrintsUptoCard : Claim7 := { stood := { row := numberPrintsUptoRow, standIns := [], harness := (true, "76578f4ab134200cbc9f192e7831cfba2409380b73d4ae9465fd8b2994949d00"), looks := true }, kinds := [], alts := [], laidByText := true, laidKinds := [.data, .data, .widerDeep, .widerDeep, .data, .data, .data, .data, .data, .data, .sentinel, .sentinel, .data, .data, .pinned, .pinned, .pinned, .pinned], laidTests := true, laidLooks := .later }
def NumberPrintsUptoCardSaid : Prop := Claim7.holds Tryz.pinned (.plain (OpenSpec.upto numberPrintsSpec)) numberPrintsUptoCard

/-- THE SECOND FORM's CARD OF 'stencillaw03.NumberFloats'. -/
def numberFloatsUptoCard : Claim7 := { stood := { row := numberFloatsUptoRow, standIns := [], harness := (true, "76578f4ab134200cbc9f192e7831cfba2409380b73d4ae9465fd8b2994949d00"), looks := true }, kinds := [], alts := [], laidByText := true, laidKinds := [.data, .data, .widerDeep, .widerDeep, .data, .data, .data, .data, .data, .data, .sentinel, .sentinel, .data, .data, .pinned, .pinned, .pinned, .pinned], laidTests := true, laidLooks := .later }
def NumberFloatsUptoCardSaid : Prop := Claim7.holds Tryz.pinned (.plain (OpenSpec.upto numberFloatsSpec)) numberFloatsUptoCard

/-- THE SECOND FORM's CARD OF 'stencillaw03.NumberParses'. -/
def numberParsesUptoCard : Claim7 := { stood := { row := numberParsesUptoRow, standIns := [], harness := (true, "76578f4ab134200cbc9f192e7831cfba2409380b73d4ae9465fd8b2994949d00"), looks := true }, kinds := [], alts := [], laidByText := true, laidKinds := [.data, .data, .widerDeep, .widerDeep, .data, .data, .data, .data, .data, .data, .sentinel, .sentinel, .data, .data, .pinned, .pinned, .pinned, .pinned], laidTests := true, laidLooks := .later }
def NumberParsesUptoCardSaid : Prop := Claim7.holds Tryz.pinned (.plain (OpenSpec.upto numberParsesSpec)) numberParsesUptoCard

/-- THE SECOND FORM's CARD OF 'stencillaw03.NumberBack'. -/
def numberBackUptoCard : Claim7 := { stood := { row := numberBackUptoRow, standIns := [], harness := (true, "76578f4ab134200cbc9f192e7831cfba2409380b73d4ae9465fd8b2994949d00"), looks := true }, kinds := [], alts := [], laidByText := true, laidKinds := [.data, .data, .widerDeep, .widerDeep, .data, .data, .data, .data, .data, .data, .sentinel, .sentinel, .data, .data, .pinned, .pinned, .pinned, .pinned], laidTests := true, laidLooks := .later }
def NumberBackUptoCardSaid : Prop := Claim7.holds Tryz.pinned (.plain (OpenSpec.upto numberBackSpec)) numberBackUptoCard

/-- THE SECOND FORM's CARD OF 'stencillaw03.NumberLists'. -/
def numberListsUptoCard : Claim7 := { stood := { row := numberListsUptoRow, standIns := [], harness := (true, "76578f4ab134200cbc9f192e7831cfba2409380b73d4ae9465fd8b2994949d00"), looks := true }, kinds := [], alts := [], laidByText := true, laidKinds := [.data, .data, .widerDeep, .widerDeep, .data, .data, .data, .data, .data, .data, .sentinel, .sentinel, .data, .data, .pinned, .pinned, .pinned, .pinned], laidTests := true, laidLooks := .later }
def NumberListsUptoCardSaid : Prop := Claim7.holds Tryz.pinned (.plain (OpenSpec.upto numberListsSpec)) numberListsUptoCard
end Rows
end Go.Proofs.YtepfodmbjojdbaaGreatDoor
