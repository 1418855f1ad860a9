/-
  DERIVED. GIVEN WITH THE SEED: THE CARDS: each row of YtkfibjmjamdigaaDoorRows.lean that lists a variable, with what it lists TIED to the program's text (the seventh form; the later family's looks); each row that meets fmt, with fmt's text TOLD by the authors' own Lean function (tested against real Go, not proved from fmt's source: count such statements apart). THE CARD IS WHAT COUNTS. Prove the row's statement (the work); the ties are given (YtkfibjmjamdigaaDoorTie.lean); close each card by the builder's one call (the guide's Derived/Test/ToyasCard.lean, 'card_holds'). Laid BY PROGRAM, IN A SANDBOX (cutbox-door.mjs). By AI agents, Wed Nov 11 2026. No macro, syntax, notation, axiom, sorry.
-/
import Derived.Test.YtkfibjmjamdigaaDoorRows
import GoSem.ClaimSeven
namespace Go.Proofs.YtkfibjmjamdigaaDoor
namespace Rows

/-- THE TIED CARD OF 'assessorlaw46.FractionForms'. -/
def fractionFormsCard : Claim7 := { stood := { row := fractionFormsRow, standIns := [], harness := (true, "70a128bd4012baccba06632e947f581454acf590ecfd754a435359186d04f7c0"), looks := true }, kinds := [], alts := [], laidByText := true, laidKinds := [.data, .data, .data], laidTests := true, laidLooks := .later }
def FractionFormsCardSaid : Prop := Claim7.holds Tryd.pinned (.plain (OpenSpec.ofChange fractionFormsSpec)) fractionFormsCard

/-- THE TIED CARD OF 'assessorlaw46.FractionField'. -/
def fractionFieldCard : Claim7 := { stood := { row := fractionFieldRow, standIns := [], harness := (true, "70a128bd4012baccba06632e947f581454acf590ecfd754a435359186d04f7c0"), looks := true }, kinds := [], alts := [], laidByText := true, laidKinds := [.data, .data, .data], laidTests := true, laidLooks := .later }
def FractionFieldCardSaid : Prop := Claim7.holds Tryd.pinned (.plain (OpenSpec.ofChange fractionFieldSpec)) fractionFieldCard

/-- THE TIED CARD OF 'assessorlaw46.FractionRounds'. -/
def fractionRoundsCard : Claim7 := { stood := { row := fractionRoundsRow, standIns := [], harness := (true, "70a128bd4012baccba06632e947f581454acf590ecfd754a435359186d04f7c0"), looks := true }, kinds := [], alts := [], laidByText := true, laidKinds := [.data, .data, .data], laidTests := true, laidLooks := .later }
def FractionRoundsCardSaid : Prop := Claim7.holds Tryd.pinned (.plain (OpenSpec.ofChange fractionRoundsSpec)) fractionRoundsCard

/-- THE TIED CARD OF 'assessorlaw46.FractionOrder'. -/
def fractionOrderCard : Claim7 := { stood := { row := fractionOrderRow, standIns := [], harness := (true, "70a128bd4012baccba06632e947f581454acf590ecfd754a435359186d04f7c0"), looks := true }, kinds := [], alts := [], laidByText := true, laidKinds := [.data, .data, .data], laidTests := true, laidLooks := .later }
def FractionOrderCardSaid : Prop := Claim7.holds Tryd.pinned (.plain (OpenSpec.ofChange fractionOrderSpec)) fractionOrderCard

/-- THE TIED CARD OF 'assessorlaw46.FractionResults'. -/
def fractionResultsCard : Claim7 := { stood := { row := fractionResultsRow, standIns := [], harness := (true, "70a128bd4012baccba06632e947f581454acf590ecfd754a435359186d04f7c0"), looks := true }, kinds := [], alts := [], laidByText := true, laidKinds := [.data, .data, .data], laidTests := true, laidLooks := .later }
def FractionResultsCardSaid : Prop := Claim7.holds Tryd.pinned (.plain (OpenSpec.ofChange fractionResultsSpec)) fractionResultsCard

/-- THE TIED CARD OF 'assessorlaw46.FractionParses'. -/
def fractionParsesCard : Claim7 := { stood := { row := fractionParsesRow, standIns := [], harness := (true, "70a128bd4012baccba06632e947f581454acf590ecfd754a435359186d04f7c0"), looks := true }, kinds := [], alts := [], laidByText := true, laidKinds := [.data, .data, .data, .data, .sentinel, .sentinel, .pinned], laidTests := true, laidLooks := .later }
def FractionParsesCardSaid : Prop := Claim7.holds Tryd.pinned (.plain (OpenSpec.ofChange fractionParsesSpec)) fractionParsesCard

/-- THE TIED CARD OF 'assessorlaw46.FractionTexts'. -/
def fractionTextsCard : Claim7 := { stood := { row := fractionTextsRow, standIns := [], harness := (true, "70a128bd4012baccba06632e947f581454acf590ecfd754a435359186d04f7c0"), looks := true }, kinds := [], alts := [], laidByText := true, laidKinds := [.data, .data, .data, .data, .sentinel, .sentinel, .pinned], laidTests := true, laidLooks := .later }
def FractionTextsCardSaid : Prop := Claim7.holds Tryd.pinned (.plain (OpenSpec.ofChange fractionTextsSpec)) fractionTextsCard

/-- THE SECOND FORM's CARD OF 'assessorlaw46.FractionForms'. -/
def fractionFormsUptoCard : Claim7 := { stood := { row := fractionFormsUptoRow, standIns := [], harness := (true, "70a128bd4012baccba06632e947f581454acf590ecfd754a435359186d04f7c0"), looks := true }, kinds := [], alts := [], laidByText := true, laidKinds := [.data, .data, .data], laidTests := true, laidLooks := .later }
def FractionFormsUptoCardSaid : Prop := Claim7.holds Tryd.pinned (.plain (OpenSpec.upto fractionFormsSpec)) fractionFormsUptoCard

/-- THE SECOND FORM's CARD OF 'assessorlaw46.FractionField'. -/
def fractionFieldUptoCard : Claim7 := { stood := { row := fractionFieldUptoRow, standIns := [], harness := (true, "70a128bd4012baccba06632e947f581454acf590ecfd754a435359186d04f7c0"), looks := true }, kinds := [], alts := [], laidByText := true, laidKinds := [.data, .data, .data], laidTests := true, laidLooks := .later }
def FractionFieldUptoCardSaid : Prop := Claim7.holds Tryd.pinned (.plain (OpenSpec.upto fractionFieldSpec)) fractionFieldUptoCard

/-- THE SECOND FORM's CARD OF 'assessorlaw46.FractionRounds'. -/
def fractionRoundsUptoCard : Claim7 := { stood := { row := fractionRoundsUptoRow, standIns := [], harness := (true, "70a128bd4012baccba06632e947f581454acf590ecfd754a435359186d04f7c0"), looks := true }, kinds := [], alts := [], laidByText := true, laidKinds := [.data, .data, .data], laidTests := true, laidLooks := .later }
def FractionRoundsUptoCardSaid : Prop := Claim7.holds Tryd.pinned (.plain (OpenSpec.upto fractionRoundsSpec)) fractionRoundsUptoCard

/-- THE SECOND FORM's CARD OF 'assessorlaw46.FractionOrder'. -/
def fractionOrderUptoCard : Claim7 := { stood := { row := fractionOrderUptoRow, standIns := [], harness := (true, "70a128bd4012baccba06632e947f581454acf590ecfd754a435359186d04f7c0"), looks := true }, kinds := [], alts := [], laidByText := true, laidKinds := [.data, .data, .data], laidTests := true, laidLooks := .later }
def FractionOrderUptoCardSaid : Prop := Claim7.holds Tryd.pinned (.plain (OpenSpec.upto fractionOrderSpec)) fractionOrderUptoCard

/-- THE SECOND FORM's CARD OF 'assessorlaw46.FractionResults'. -/
def fractionResultsUptoCard : Claim7 := { stood := { row := fractionResultsUptoRow, standIns := [], harness := (true, "70a128bd4012baccba06632e947f581454acf590ecfd754a435359186d04f7c0"), looks := true }, kinds := [], alts := [], laidByText := true, laidKinds := [.data, .data, .data], laidTests := true, laidLooks := .later }
def FractionResultsUptoCardSaid : Prop := Claim7.holds Tryd.pinned (.plain (OpenSpec.upto fractionResultsSpec)) fractionResultsUptoCard

/-- THE SECOND FORM's CARD OF 'assessorlaw46.FractionParses'. -/
def fractionParsesUptoCard : Claim7 := { stood := { row := fractionParsesUptoRow, standIns := [], harness := (true, "70a128bd4012baccba06632e947f581454acf590ecfd754a435359186d04f7c0"), looks := true }, kinds := [], alts := [], laidByText := true, laidKinds := [.data, .data, .data, .data, .sentinel, .sentinel, .pinned], laidTests := true, laidLooks := .later }
def FractionParsesUptoCardSaid : Prop := Claim7.holds Tryd.pinned (.plain (OpenSpec.upto fractionParsesSpec)) fractionParsesUptoCard

/-- THE SECOND FORM's CARD OF 'assessorlaw46.FractionTexts'. -/
def fractionTextsUptoCard : Claim7 := { stood := { row := fractionTextsUptoRow, standIns := [], harness := (true, "70a128bd4012baccba06632e947f581454acf590ecfd754a435359186d04f7c0"), looks := true }, kinds := [], alts := [], laidByText := true, laidKinds := [.data, .data, .data, .data, .sentinel, .sentinel, .pinned], laidTests := true, laidLooks := .later }
def FractionTextsUptoCardSaid : Prop := Claim7.holds Tryd.pinned (.plain (OpenSpec.upto fractionTextsSpec)) fractionTextsUptoCard
end Rows
end Go.Proofs.YtkfibjmjamdigaaDoor
