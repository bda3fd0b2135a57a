/-
  No cell of these rows narrows 'for every input' (looked for: loops, veiled, ifaces, maps, wideKeys, modest, calm, conditions, laid).
  DERIVED. THE GIVEN ROWS OF THIS SEAT. 7 by the template 'for every input the law returns true; each argument reads behind the call as it read before'; 0 by the template 'total and deterministic' (their statements: YtbcikbekdhdpaaaTotals.lean).
  GIVEN WITH THE SEED: the statements are not yours to turn. If you find one false, say at which input.
  Laid BY PROGRAM, IN A SANDBOX (cutbox-rows.mjs): the forced cells as the released guide's own fill.sh prints them over the translation 179ea9dcfbb32520… (all of the seat's roots in one cut). By AI agents, Wed Nov 11 2026. No macro, syntax, notation, axiom, sorry.
-/
import Derived.Test.YtbcikbekdhdpaaaChecked
import GoSem.Claim
import GoSem.ClaimJoined
import GoSem.ClaimMapViews
import Derived.JoinedTies
import Derived.KernelRfl
namespace Go.Proofs.Ytbcikbekdhdpaaa
/- THE CELL 'sum', in the pinned program and in every row, IS THE sha256 OF THE DUMP (.gsa) THAT YtbcikbekdhdpaaaProg.lean LOADS. Nothing in Lean hashes anything: it is a label: what it is worth is what the hold of that sum in a sandbox is worth. -/
noncomputable def Try.pinned : Pinned := { name := "ytbcikbekdhdpaaa", sum := "179ea9dcfbb325209bf45ecb5e5135d8f8abfd7842cc7f2440a35d6c2cbad141", checked := Try.checked }
namespace Rows
def none {H : Type} : Left H := { results := [], args := [] }

/-- 'laws.FnApartRules': WHATEVER THE INPUT: true; the input reads as it did. -/
def fnApartRulesSpec : ChangeSpec := { name := "fnApartRules", fn := fun _ => fun
  | [d] => { results := [.lit (.bool true)], args := [d] }
  | _ => none }
def fnApartRulesRow : OpenClaim := { program := "ytbcikbekdhdpaaa", sum := "179ea9dcfbb325209bf45ecb5e5135d8f8abfd7842cc7f2440a35d6c2cbad141", func := "loop.example/gridpuzzles/laws.FnApartRules", spec := "fnApartRules", recurses := true, apart := false }
def FnApartRulesSaid : Prop := fnApartRulesRow.holds Try.pinned (OpenSpec.ofChange fnApartRulesSpec)

/-- ITS FALSE NEIGHBOUR: 'it returns false'. Refute it at one input. -/
def fnApartRulesWrong : ChangeSpec := { name := "fnApartRules", fn := fun _ => fun
  | [d] => { results := [.lit (.bool false)], args := [d] }
  | _ => none }
def FnApartRulesWrongFalsely : Prop := fnApartRulesRow.holds Try.pinned (OpenSpec.ofChange fnApartRulesWrong)

/-- 'laws.FnLessRules': WHATEVER THE INPUT: true; the input reads as it did. -/
def fnLessRulesSpec : ChangeSpec := { name := "fnLessRules", fn := fun _ => fun
  | [d] => { results := [.lit (.bool true)], args := [d] }
  | _ => none }
def fnLessRulesRow : OpenClaim := { program := "ytbcikbekdhdpaaa", sum := "179ea9dcfbb325209bf45ecb5e5135d8f8abfd7842cc7f2440a35d6c2cbad141", func := "loop.example/gridpuzzles/laws.FnLessRules", spec := "fnLessRules", recurses := true, apart := false }
def FnLessRulesSaid : Prop := fnLessRulesRow.holds Try.pinned (OpenSpec.ofChange fnLessRulesSpec)

/-- ITS FALSE NEIGHBOUR: 'it returns false'. Refute it at one input. -/
def fnLessRulesWrong : ChangeSpec := { name := "fnLessRules", fn := fun _ => fun
  | [d] => { results := [.lit (.bool false)], args := [d] }
  | _ => none }
def FnLessRulesWrongFalsely : Prop := fnLessRulesRow.holds Try.pinned (OpenSpec.ofChange fnLessRulesWrong)

/-- 'laws.FnRulesGrid': WHATEVER THE INPUT: true; the input reads as it did. -/
def fnRulesGridSpec : ChangeSpec := { name := "fnRulesGrid", fn := fun _ => fun
  | [d] => { results := [.lit (.bool true)], args := [d] }
  | _ => none }
def fnRulesGridRow : OpenClaim := { program := "ytbcikbekdhdpaaa", sum := "179ea9dcfbb325209bf45ecb5e5135d8f8abfd7842cc7f2440a35d6c2cbad141", func := "loop.example/gridpuzzles/laws.FnRulesGrid", spec := "fnRulesGrid", unfollowed := true, recurses := true, apart := false }
def FnRulesGridSaid : Prop := fnRulesGridRow.holds Try.pinned (OpenSpec.ofChange fnRulesGridSpec)

/-- ITS FALSE NEIGHBOUR: 'it returns false'. Refute it at one input. -/
def fnRulesGridWrong : ChangeSpec := { name := "fnRulesGrid", fn := fun _ => fun
  | [d] => { results := [.lit (.bool false)], args := [d] }
  | _ => none }
def FnRulesGridWrongFalsely : Prop := fnRulesGridRow.holds Try.pinned (OpenSpec.ofChange fnRulesGridWrong)

/-- 'laws.FnCageRules': WHATEVER THE INPUT: true; the input reads as it did. -/
def fnCageRulesSpec : ChangeSpec := { name := "fnCageRules", fn := fun _ => fun
  | [d] => { results := [.lit (.bool true)], args := [d] }
  | _ => none }
def fnCageRulesRow : OpenClaim := { program := "ytbcikbekdhdpaaa", sum := "179ea9dcfbb325209bf45ecb5e5135d8f8abfd7842cc7f2440a35d6c2cbad141", func := "loop.example/gridpuzzles/laws.FnCageRules", spec := "fnCageRules", recurses := true, apart := false }
def FnCageRulesSaid : Prop := fnCageRulesRow.holds Try.pinned (OpenSpec.ofChange fnCageRulesSpec)

/-- ITS FALSE NEIGHBOUR: 'it returns false'. Refute it at one input. -/
def fnCageRulesWrong : ChangeSpec := { name := "fnCageRules", fn := fun _ => fun
  | [d] => { results := [.lit (.bool false)], args := [d] }
  | _ => none }
def FnCageRulesWrongFalsely : Prop := fnCageRulesRow.holds Try.pinned (OpenSpec.ofChange fnCageRulesWrong)

/-- 'laws.FnGameOf': WHATEVER THE INPUT: true; the input reads as it did. -/
def fnGameOfSpec : ChangeSpec := { name := "fnGameOf", fn := fun _ => fun
  | [d] => { results := [.lit (.bool true)], args := [d] }
  | _ => none }
def fnGameOfRow : OpenClaim := { program := "ytbcikbekdhdpaaa", sum := "179ea9dcfbb325209bf45ecb5e5135d8f8abfd7842cc7f2440a35d6c2cbad141", func := "loop.example/gridpuzzles/laws.FnGameOf", spec := "fnGameOf", recurses := true, apart := false }
def FnGameOfSaid : Prop := fnGameOfRow.holds Try.pinned (OpenSpec.ofChange fnGameOfSpec)

/-- ITS FALSE NEIGHBOUR: 'it returns false'. Refute it at one input. -/
def fnGameOfWrong : ChangeSpec := { name := "fnGameOf", fn := fun _ => fun
  | [d] => { results := [.lit (.bool false)], args := [d] }
  | _ => none }
def FnGameOfWrongFalsely : Prop := fnGameOfRow.holds Try.pinned (OpenSpec.ofChange fnGameOfWrong)

/-- 'laws.FnExactNeededRules': WHATEVER THE INPUT: true; the input reads as it did. -/
def fnExactNeededRulesSpec : ChangeSpec := { name := "fnExactNeededRules", fn := fun _ => fun
  | [d] => { results := [.lit (.bool true)], args := [d] }
  | _ => none }
def fnExactNeededRulesRow : OpenClaim := { program := "ytbcikbekdhdpaaa", sum := "179ea9dcfbb325209bf45ecb5e5135d8f8abfd7842cc7f2440a35d6c2cbad141", func := "loop.example/gridpuzzles/laws.FnExactNeededRules", spec := "fnExactNeededRules", unfollowed := true, recurses := true, apart := false }
def FnExactNeededRulesSaid : Prop := fnExactNeededRulesRow.holds Try.pinned (OpenSpec.ofChange fnExactNeededRulesSpec)

/-- ITS FALSE NEIGHBOUR: 'it returns false'. Refute it at one input. -/
def fnExactNeededRulesWrong : ChangeSpec := { name := "fnExactNeededRules", fn := fun _ => fun
  | [d] => { results := [.lit (.bool false)], args := [d] }
  | _ => none }
def FnExactNeededRulesWrongFalsely : Prop := fnExactNeededRulesRow.holds Try.pinned (OpenSpec.ofChange fnExactNeededRulesWrong)

/-- 'laws.FnProofValid': WHATEVER THE INPUT: true; the input reads as it did. -/
def fnProofValidSpec : ChangeSpec := { name := "fnProofValid", fn := fun _ => fun
  | [d] => { results := [.lit (.bool true)], args := [d] }
  | _ => none }
def fnProofValidRow : OpenClaim := { program := "ytbcikbekdhdpaaa", sum := "179ea9dcfbb325209bf45ecb5e5135d8f8abfd7842cc7f2440a35d6c2cbad141", func := "loop.example/gridpuzzles/laws.FnProofValid", spec := "fnProofValid", recurses := true, apart := false }
def FnProofValidSaid : Prop := fnProofValidRow.holds Try.pinned (OpenSpec.ofChange fnProofValidSpec)

/-- ITS FALSE NEIGHBOUR: 'it returns false'. Refute it at one input. -/
def fnProofValidWrong : ChangeSpec := { name := "fnProofValid", fn := fun _ => fun
  | [d] => { results := [.lit (.bool false)], args := [d] }
  | _ => none }
def FnProofValidWrongFalsely : Prop := fnProofValidRow.holds Try.pinned (OpenSpec.ofChange fnProofValidWrong)

/- THE SECOND FORM. 'bulk': how many values and letters a reading holds, each counted each time it is reached (what is shared counts as often as it is met; a slice's spare places count too). A statement '..UptoSaid' is the law's where the arguments, and the package variables that the reading takes, are together of bulk at most 1048576: NARROWER than '..Said'. Prove '..Said' where nothing that the law and all that it calls make is longer than what came in: it says more and counts as full. Else prove '..UptoSaid'. A law counts once. -/
mutual
def uptoBulk {H : Type} : DataW H → Nat
  | .lit (.string bytes) => bytes.length + 1
  | .lit _ => 1
  | .nil => 1
  | .ptr d => uptoBulk d + 1
  | .slice elems spare => uptoBulkAll elems + uptoBulkAll spare + 1
  | .agg parts => uptoBulkAll parts + 1
  | .iface _ d => uptoBulk d + 1
  | .map entries => uptoBulkEntries entries + 1
  | .held _ => 1
def uptoBulkAll {H : Type} : List (DataW H) → Nat
  | [] => 0
  | d :: r => uptoBulk d + uptoBulkAll r
def uptoBulkEntries {H : Type} : List (Lit × DataW H) → Nat
  | [] => 0
  | x :: r => uptoBulkEntry x + uptoBulkEntries r
def uptoBulkEntry {H : Type} : Lit × DataW H → Nat
  | (.string bytes, d) => bytes.length + uptoBulk d + 1
  | (_, d) => uptoBulk d + 1
 end
def uptoSmall : (H : Type) → List (DataW H) → Bool := fun _ ds => decide (uptoBulkAll ds ≤ 1048576)
def OpenSpec.upto (s : _root_.Go.ChangeSpec) : _root_.Go.OpenSpec := { _root_.Go.OpenSpec.ofChange s with cond := some uptoSmall }

/-- 'laws.FnApartRules', WHERE WHAT IT READS IS OF BULK AT MOST 1048576: true; the input reads as it did. -/
def fnApartRulesUptoRow : OpenClaim := { program := "ytbcikbekdhdpaaa", sum := "179ea9dcfbb325209bf45ecb5e5135d8f8abfd7842cc7f2440a35d6c2cbad141", func := "loop.example/gridpuzzles/laws.FnApartRules", spec := "fnApartRules", recurses := true, apart := false, narrowed := true }
def FnApartRulesUptoSaid : Prop := fnApartRulesUptoRow.holds Try.pinned (OpenSpec.upto fnApartRulesSpec)

/-- 'laws.FnLessRules', WHERE WHAT IT READS IS OF BULK AT MOST 1048576: true; the input reads as it did. -/
def fnLessRulesUptoRow : OpenClaim := { program := "ytbcikbekdhdpaaa", sum := "179ea9dcfbb325209bf45ecb5e5135d8f8abfd7842cc7f2440a35d6c2cbad141", func := "loop.example/gridpuzzles/laws.FnLessRules", spec := "fnLessRules", recurses := true, apart := false, narrowed := true }
def FnLessRulesUptoSaid : Prop := fnLessRulesUptoRow.holds Try.pinned (OpenSpec.upto fnLessRulesSpec)

/-- 'laws.FnRulesGrid', WHERE WHAT IT READS IS OF BULK AT MOST 1048576: true; the input reads as it did. -/
def fnRulesGridUptoRow : OpenClaim := { program := "ytbcikbekdhdpaaa", sum := "179ea9dcfbb325209bf45ecb5e5135d8f8abfd7842cc7f2440a35d6c2cbad141", func := "loop.example/gridpuzzles/laws.FnRulesGrid", spec := "fnRulesGrid", unfollowed := true, recurses := true, apart := false, narrowed := true }
def FnRulesGridUptoSaid : Prop := fnRulesGridUptoRow.holds Try.pinned (OpenSpec.upto fnRulesGridSpec)

/-- 'laws.FnCageRules', WHERE WHAT IT READS IS OF BULK AT MOST 1048576: true; the input reads as it did. -/
def fnCageRulesUptoRow : OpenClaim := { program := "ytbcikbekdhdpaaa", sum := "179ea9dcfbb325209bf45ecb5e5135d8f8abfd7842cc7f2440a35d6c2cbad141", func := "loop.example/gridpuzzles/laws.FnCageRules", spec := "fnCageRules", recurses := true, apart := false, narrowed := true }
def FnCageRulesUptoSaid : Prop := fnCageRulesUptoRow.holds Try.pinned (OpenSpec.upto fnCageRulesSpec)

/-- 'laws.FnGameOf', WHERE WHAT IT READS IS OF BULK AT MOST 1048576: true; the input reads as it did. -/
def fnGameOfUptoRow : OpenClaim := { program := "ytbcikbekdhdpaaa", sum := "179ea9dcfbb325209bf45ecb5e5135d8f8abfd7842cc7f2440a35d6c2cbad141", func := "loop.example/gridpuzzles/laws.FnGameOf", spec := "fnGameOf", recurses := true, apart := false, narrowed := true }
def FnGameOfUptoSaid : Prop := fnGameOfUptoRow.holds Try.pinned (OpenSpec.upto fnGameOfSpec)

/-- 'laws.FnExactNeededRules', WHERE WHAT IT READS IS OF BULK AT MOST 1048576: true; the input reads as it did. -/
def fnExactNeededRulesUptoRow : OpenClaim := { program := "ytbcikbekdhdpaaa", sum := "179ea9dcfbb325209bf45ecb5e5135d8f8abfd7842cc7f2440a35d6c2cbad141", func := "loop.example/gridpuzzles/laws.FnExactNeededRules", spec := "fnExactNeededRules", unfollowed := true, recurses := true, apart := false, narrowed := true }
def FnExactNeededRulesUptoSaid : Prop := fnExactNeededRulesUptoRow.holds Try.pinned (OpenSpec.upto fnExactNeededRulesSpec)

/-- 'laws.FnProofValid', WHERE WHAT IT READS IS OF BULK AT MOST 1048576: true; the input reads as it did. -/
def fnProofValidUptoRow : OpenClaim := { program := "ytbcikbekdhdpaaa", sum := "179ea9dcfbb325209bf45ecb5e5135d8f8abfd7842cc7f2440a35d6c2cbad141", func := "loop.example/gridpuzzles/laws.FnProofValid", spec := "fnProofValid", recurses := true, apart := false, narrowed := true }
def FnProofValidUptoSaid : Prop := fnProofValidUptoRow.holds Try.pinned (OpenSpec.upto fnProofValidSpec)

end Rows
end Go.Proofs.Ytbcikbekdhdpaaa
