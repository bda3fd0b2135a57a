/-
  DERIVED. GIVEN WITH THE SEED: THE CARDS: each row of YtojnknpgnohegaaDoorRows.lean that lists a variable, with what it lists TIED to the program's text (the seventh form; the later family's looks); each row that meets fmt, with fmt's text TOLD by the authors' own Lean function (tested against real Go, not proved from fmt's source: count such statements apart). THE CARD IS WHAT COUNTS. Prove the row's statement (the work); the ties are given (YtojnknpgnohegaaDoorTie.lean); close each card by the builder's one call (the guide's Derived/Test/ToyasCard.lean, 'card_holds'). Laid BY PROGRAM, IN A SANDBOX (cutbox-door.mjs). By AI agents, Wed Nov 11 2026. No macro, syntax, notation, axiom, sorry.
-/
import Derived.Test.YtojnknpgnohegaaDoorRows
import GoSem.ClaimSeven
namespace Go.Proofs.YtojnknpgnohegaaDoor
namespace Rows

/-- THE TIED CARD OF 'laws.FnExactHintText'. -/
def fnExactHintTextCard : Claim7 := { stood := { row := fnExactHintTextRow, standIns := [], harness := (true, "6b034f625a908fc8998258824ba6867cffb7db54fa1710b10f748e4515a1e078"), looks := true }, kinds := [], alts := [], laidByText := true, laidKinds := [.data, .data, .data], laidTests := true, laidLooks := .later }
def FnExactHintTextCardSaid : Prop := Claim7.holds Tryd.pinned (.plain (OpenSpec.ofChange fnExactHintTextSpec)) fnExactHintTextCard

/-- THE TIED CARD OF 'laws.FnHintText'. -/
def fnHintTextCard : Claim7 := { stood := { row := fnHintTextRow, standIns := [], harness := (true, "6b034f625a908fc8998258824ba6867cffb7db54fa1710b10f748e4515a1e078"), looks := true }, kinds := [], alts := [], laidByText := true, laidKinds := [.data, .data, .data], laidTests := true, laidLooks := .later }
def FnHintTextCardSaid : Prop := Claim7.holds Tryd.pinned (.plain (OpenSpec.ofChange fnHintTextSpec)) fnHintTextCard

/-- THE TIED CARD OF 'laws.FnExactRuleText'. -/
def fnExactRuleTextCard : Claim7 := { stood := { row := fnExactRuleTextRow, standIns := [], harness := (true, "6b034f625a908fc8998258824ba6867cffb7db54fa1710b10f748e4515a1e078"), looks := true }, kinds := [], alts := [], laidByText := true, laidKinds := [.data, .data, .data], laidTests := true, laidLooks := .later }
def FnExactRuleTextCardSaid : Prop := Claim7.holds Tryd.pinned (.plain (OpenSpec.ofChange fnExactRuleTextSpec)) fnExactRuleTextCard

/-- THE TIED CARD OF 'laws.FnExactPuzzleText'. -/
def fnExactPuzzleTextCard : Claim7 := { stood := { row := fnExactPuzzleTextRow, standIns := [], harness := (true, "6b034f625a908fc8998258824ba6867cffb7db54fa1710b10f748e4515a1e078"), looks := true }, kinds := [], alts := [], laidByText := true, laidKinds := [.data, .data, .data], laidTests := true, laidLooks := .later }
def FnExactPuzzleTextCardSaid : Prop := Claim7.holds Tryd.pinned (.plain (OpenSpec.ofChange fnExactPuzzleTextSpec)) fnExactPuzzleTextCard

/-- THE TIED CARD OF 'laws.FnExactReadRule'. -/
def fnExactReadRuleCard : Claim7 := { stood := { row := fnExactReadRuleRow, standIns := [], harness := (true, "6b034f625a908fc8998258824ba6867cffb7db54fa1710b10f748e4515a1e078"), looks := true }, kinds := [], alts := [], laidByText := true, laidKinds := [.data, .data, .data, .sentinel, .sentinel], laidTests := true, laidLooks := .later }
def FnExactReadRuleCardSaid : Prop := Claim7.holds Tryd.pinned (.plain (OpenSpec.ofChange fnExactReadRuleSpec)) fnExactReadRuleCard

/-- THE SECOND FORM's CARD OF 'laws.FnExactHintText'. -/
def fnExactHintTextUptoCard : Claim7 := { stood := { row := fnExactHintTextUptoRow, standIns := [], harness := (true, "6b034f625a908fc8998258824ba6867cffb7db54fa1710b10f748e4515a1e078"), looks := true }, kinds := [], alts := [], laidByText := true, laidKinds := [.data, .data, .data], laidTests := true, laidLooks := .later }
def FnExactHintTextUptoCardSaid : Prop := Claim7.holds Tryd.pinned (.plain (OpenSpec.upto fnExactHintTextSpec)) fnExactHintTextUptoCard

/-- THE SECOND FORM's CARD OF 'laws.FnHintText'. -/
def fnHintTextUptoCard : Claim7 := { stood := { row := fnHintTextUptoRow, standIns := [], harness := (true, "6b034f625a908fc8998258824ba6867cffb7db54fa1710b10f748e4515a1e078"), looks := true }, kinds := [], alts := [], laidByText := true, laidKinds := [.data, .data, .data], laidTests := true, laidLooks := .later }
def FnHintTextUptoCardSaid : Prop := Claim7.holds Tryd.pinned (.plain (OpenSpec.upto fnHintTextSpec)) fnHintTextUptoCard

/-- THE SECOND FORM's CARD OF 'laws.FnExactRuleText'. -/
def fnExactRuleTextUptoCard : Claim7 := { stood := { row := fnExactRuleTextUptoRow, standIns := [], harness := (true, "6b034f625a908fc8998258824ba6867cffb7db54fa1710b10f748e4515a1e078"), looks := true }, kinds := [], alts := [], laidByText := true, laidKinds := [.data, .data, .data], laidTests := true, laidLooks := .later }
def FnExactRuleTextUptoCardSaid : Prop := Claim7.holds Tryd.pinned (.plain (OpenSpec.upto fnExactRuleTextSpec)) fnExactRuleTextUptoCard

/-- THE SECOND FORM's CARD OF 'laws.FnExactPuzzleText'. -/
def fnExactPuzzleTextUptoCard : Claim7 := { stood := { row := fnExactPuzzleTextUptoRow, standIns := [], harness := (true, "6b034f625a908fc8998258824ba6867cffb7db54fa1710b10f748e4515a1e078"), looks := true }, kinds := [], alts := [], laidByText := true, laidKinds := [.data, .data, .data], laidTests := true, laidLooks := .later }
def FnExactPuzzleTextUptoCardSaid : Prop := Claim7.holds Tryd.pinned (.plain (OpenSpec.upto fnExactPuzzleTextSpec)) fnExactPuzzleTextUptoCard

/-- THE SECOND FORM's CARD OF 'laws.FnExactReadRule'. -/
def fnExactReadRuleUptoCard : Claim7 := { stood := { row := fnExactReadRuleUptoRow, standIns := [], harness := (true, "6b034f625a908fc8998258824ba6867cffb7db54fa1710b10f748e4515a1e078"), looks := true }, kinds := [], alts := [], laidByText := true, laidKinds := [.data, .data, .data, .sentinel, .sentinel], laidTests := true, laidLooks := .later }
def FnExactReadRuleUptoCardSaid : Prop := Claim7.holds Tryd.pinned (.plain (OpenSpec.upto fnExactReadRuleSpec)) fnExactReadRuleUptoCard
end Rows
end Go.Proofs.YtojnknpgnohegaaDoor
