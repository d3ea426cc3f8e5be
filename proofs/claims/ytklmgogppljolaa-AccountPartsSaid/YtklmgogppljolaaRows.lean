/-
  No cell of these rows narrows 'for every input' (looked for: loops, veiled, ifaces, maps, wideKeys, modest, calm, conditions, laid).
  DERIVED. THE GIVEN ROWS OF THIS SEAT. 5 by the template 'for every input the law returns true; each argument reads behind the call as it read before'; 0 by the template 'total and deterministic' (their statements: YtklmgogppljolaaTotals.lean).
  GIVEN WITH THE SEED: the statements are not yours to turn. If you find one false, say at which input.
  Laid BY PROGRAM, IN A SANDBOX (cutbox-rows.mjs): the forced cells as the released guide's own fill.sh prints them over the translation 54aebe7697441acb… (all of the seat's roots in one cut). By AI agents, Wed Nov 11 2026. No macro, syntax, notation, axiom, sorry.
-/
import Derived.Test.YtklmgogppljolaaChecked
import GoSem.Claim
import GoSem.ClaimJoined
import GoSem.ClaimMapViews
import Derived.JoinedTies
import Derived.KernelRfl
namespace Go.Proofs.Ytklmgogppljolaa
/- THE CELL 'sum', in the pinned program and in every row, IS THE sha256 OF THE DUMP (.gsa) THAT YtklmgogppljolaaProg.lean LOADS. Nothing in Lean hashes anything: it is a label: what it is worth is what the hold of that sum in a sandbox is worth. -/
noncomputable def Try.pinned : Pinned := { name := "ytklmgogppljolaa", sum := "54aebe7697441acbab2bbfc08c74ebd466c3e7cd94d92a9339d7928623c76272", checked := Try.checked }
namespace Rows
def none {H : Type} : Left H := { results := [], args := [] }

/-- 'tranchelaw34.AccountCharts': WHATEVER THE INPUT: true; the input reads as it did. -/
def accountChartsSpec : ChangeSpec := { name := "accountCharts", fn := fun _ => fun
  | [d1, d2] => { results := [.lit (.bool true)], args := [d1, d2] }
  | _ => none }
def accountChartsRow : OpenClaim := { program := "ytklmgogppljolaa", sum := "54aebe7697441acbab2bbfc08c74ebd466c3e7cd94d92a9339d7928623c76272", func := "tranche/tranchelaw34.AccountCharts", spec := "accountCharts", inPlace := ["internal/bytealg.IndexByteString", "internal/bytealg.IndexString", "internal/abi.NoEscape", "internal/bytealg.MakeNoZero"], unfollowed := true, recurses := true, named := ["internal/bytealg.MaxLen"], apart := false }
def AccountChartsSaid : Prop := accountChartsRow.holds Try.pinned (OpenSpec.ofChange accountChartsSpec)

/-- ITS FALSE NEIGHBOUR: 'it returns false'. Refute it at one input. -/
def accountChartsWrong : ChangeSpec := { name := "accountCharts", fn := fun _ => fun
  | [d1, d2] => { results := [.lit (.bool false)], args := [d1, d2] }
  | _ => none }
def AccountChartsWrongFalsely : Prop := accountChartsRow.holds Try.pinned (OpenSpec.ofChange accountChartsWrong)

/-- 'tranchelaw34.AccountOrder': WHATEVER THE INPUT: true; the input reads as it did. -/
def accountOrderSpec : ChangeSpec := { name := "accountOrder", fn := fun _ => fun
  | [d1, d2, d3] => { results := [.lit (.bool true)], args := [d1, d2, d3] }
  | _ => none }
def accountOrderRow : OpenClaim := { program := "ytklmgogppljolaa", sum := "54aebe7697441acbab2bbfc08c74ebd466c3e7cd94d92a9339d7928623c76272", func := "tranche/tranchelaw34.AccountOrder", spec := "accountOrder", inPlace := ["internal/bytealg.IndexByteString", "internal/bytealg.IndexString", "internal/abi.NoEscape", "internal/bytealg.MakeNoZero"], unfollowed := true, recurses := true, named := ["internal/bytealg.MaxLen"], apart := false }
def AccountOrderSaid : Prop := accountOrderRow.holds Try.pinned (OpenSpec.ofChange accountOrderSpec)

/-- ITS FALSE NEIGHBOUR: 'it returns false'. Refute it at one input. -/
def accountOrderWrong : ChangeSpec := { name := "accountOrder", fn := fun _ => fun
  | [d1, d2, d3] => { results := [.lit (.bool false)], args := [d1, d2, d3] }
  | _ => none }
def AccountOrderWrongFalsely : Prop := accountOrderRow.holds Try.pinned (OpenSpec.ofChange accountOrderWrong)

/-- 'tranchelaw34.AccountFinds': WHATEVER THE INPUT: true; the input reads as it did. -/
def accountFindsSpec : ChangeSpec := { name := "accountFinds", fn := fun _ => fun
  | [d1, d2] => { results := [.lit (.bool true)], args := [d1, d2] }
  | _ => none }
def accountFindsRow : OpenClaim := { program := "ytklmgogppljolaa", sum := "54aebe7697441acbab2bbfc08c74ebd466c3e7cd94d92a9339d7928623c76272", func := "tranche/tranchelaw34.AccountFinds", spec := "accountFinds", inPlace := ["internal/bytealg.IndexByteString", "internal/bytealg.IndexString", "internal/abi.NoEscape", "internal/bytealg.MakeNoZero"], unfollowed := true, recurses := true, named := ["internal/bytealg.MaxLen"], apart := false }
def AccountFindsSaid : Prop := accountFindsRow.holds Try.pinned (OpenSpec.ofChange accountFindsSpec)

/-- ITS FALSE NEIGHBOUR: 'it returns false'. Refute it at one input. -/
def accountFindsWrong : ChangeSpec := { name := "accountFinds", fn := fun _ => fun
  | [d1, d2] => { results := [.lit (.bool false)], args := [d1, d2] }
  | _ => none }
def AccountFindsWrongFalsely : Prop := accountFindsRow.holds Try.pinned (OpenSpec.ofChange accountFindsWrong)

/-- 'tranchelaw34.AccountCodes': WHATEVER THE INPUT: true; the input reads as it did. -/
def accountCodesSpec : ChangeSpec := { name := "accountCodes", fn := fun _ => fun
  | [d1, d2, d3, d4, d5] => { results := [.lit (.bool true)], args := [d1, d2, d3, d4, d5] }
  | _ => none }
def accountCodesRow : OpenClaim := { program := "ytklmgogppljolaa", sum := "54aebe7697441acbab2bbfc08c74ebd466c3e7cd94d92a9339d7928623c76272", func := "tranche/tranchelaw34.AccountCodes", spec := "accountCodes", inPlace := ["internal/bytealg.IndexByteString", "internal/bytealg.IndexString", "internal/abi.NoEscape", "internal/bytealg.MakeNoZero"], unfollowed := true, recurses := true, named := ["internal/bytealg.MaxLen"], apart := false }
def AccountCodesSaid : Prop := accountCodesRow.holds Try.pinned (OpenSpec.ofChange accountCodesSpec)

/-- ITS FALSE NEIGHBOUR: 'it returns false'. Refute it at one input. -/
def accountCodesWrong : ChangeSpec := { name := "accountCodes", fn := fun _ => fun
  | [d1, d2, d3, d4, d5] => { results := [.lit (.bool false)], args := [d1, d2, d3, d4, d5] }
  | _ => none }
def AccountCodesWrongFalsely : Prop := accountCodesRow.holds Try.pinned (OpenSpec.ofChange accountCodesWrong)

/-- 'tranchelaw34.AccountParts': WHATEVER THE INPUT: true; the input reads as it did. -/
def accountPartsSpec : ChangeSpec := { name := "accountParts", fn := fun _ => fun
  | [d1, d2, d3] => { results := [.lit (.bool true)], args := [d1, d2, d3] }
  | _ => none }
def accountPartsRow : OpenClaim := { program := "ytklmgogppljolaa", sum := "54aebe7697441acbab2bbfc08c74ebd466c3e7cd94d92a9339d7928623c76272", func := "tranche/tranchelaw34.AccountParts", spec := "accountParts", inPlace := ["internal/bytealg.IndexByteString", "internal/bytealg.IndexString", "internal/abi.NoEscape", "internal/bytealg.MakeNoZero", "internal/bytealg.abigen_runtime_cmpstring"], unfollowed := true, recurses := true, named := ["internal/bytealg.MaxLen"], apart := false }
def AccountPartsSaid : Prop := accountPartsRow.holds Try.pinned (OpenSpec.ofChange accountPartsSpec)

/-- ITS FALSE NEIGHBOUR: 'it returns false'. Refute it at one input. -/
def accountPartsWrong : ChangeSpec := { name := "accountParts", fn := fun _ => fun
  | [d1, d2, d3] => { results := [.lit (.bool false)], args := [d1, d2, d3] }
  | _ => none }
def AccountPartsWrongFalsely : Prop := accountPartsRow.holds Try.pinned (OpenSpec.ofChange accountPartsWrong)

/- THE SECOND FORM. 'bulk': how many values and letters a reading holds, each counted each time it is reached (what is shared counts as often as it is met; a slice's spare places count too). A statement '..UptoSaid' is the law's where the arguments, and the package variables that the reading takes, are together of bulk at most 1048576: NARROWER than '..Said'. Prove '..Said' where nothing that the law and all that it calls make is longer than what came in: it says more and counts as full. Else prove '..UptoSaid'. A law counts once. -/
mutual
def uptoBulk {H : Type} : DataW H → Nat
  | .lit (.string bytes) => bytes.length + 1
  | .lit _ => 1
  | .nil => 1
  | .ptr d => uptoBulk d + 1
  | .slice elems spare => uptoBulkAll elems + uptoBulkAll spare + 1
  | .agg parts => uptoBulkAll parts + 1
  | .iface _ d => uptoBulk d + 1
  | .map entries => uptoBulkEntries entries + 1
  | .held _ => 1
def uptoBulkAll {H : Type} : List (DataW H) → Nat
  | [] => 0
  | d :: r => uptoBulk d + uptoBulkAll r
def uptoBulkEntries {H : Type} : List (Lit × DataW H) → Nat
  | [] => 0
  | x :: r => uptoBulkEntry x + uptoBulkEntries r
def uptoBulkEntry {H : Type} : Lit × DataW H → Nat
  | (.string bytes, d) => bytes.length + uptoBulk d + 1
  | (_, d) => uptoBulk d + 1
 end
def uptoSmall : (H : Type) → List (DataW H) → Bool := fun _ ds => decide (uptoBulkAll ds ≤ 1048576)
def OpenSpec.upto (s : _root_.Go.ChangeSpec) : _root_.Go.OpenSpec := { _root_.Go.OpenSpec.ofChange s with cond := some uptoSmall }

/-- 'tranchelaw34.AccountCharts', WHERE WHAT IT READS IS OF BULK AT MOST 1048576: true; the input reads as it did. -/
def accountChartsUptoRow : OpenClaim := { program := "ytklmgogppljolaa", sum := "54aebe7697441acbab2bbfc08c74ebd466c3e7cd94d92a9339d7928623c76272", func := "tranche/tranchelaw34.AccountCharts", spec := "accountCharts", inPlace := ["internal/bytealg.IndexByteString", "internal/bytealg.IndexString", "internal/abi.NoEscape", "internal/bytealg.MakeNoZero"], unfollowed := true, recurses := true, named := ["internal/bytealg.MaxLen"], apart := false, narrowed := true }
def AccountChartsUptoSaid : Prop := accountChartsUptoRow.holds Try.pinned (OpenSpec.upto accountChartsSpec)

/-- 'tranchelaw34.AccountOrder', WHERE WHAT IT READS IS OF BULK AT MOST 1048576: true; the input reads as it did. -/
def accountOrderUptoRow : OpenClaim := { program := "ytklmgogppljolaa", sum := "54aebe7697441acbab2bbfc08c74ebd466c3e7cd94d92a9339d7928623c76272", func := "tranche/tranchelaw34.AccountOrder", spec := "accountOrder", inPlace := ["internal/bytealg.IndexByteString", "internal/bytealg.IndexString", "internal/abi.NoEscape", "internal/bytealg.MakeNoZero"], unfollowed := true, recurses := true, named := ["internal/bytealg.MaxLen"], apart := false, narrowed := true }
def AccountOrderUptoSaid : Prop := accountOrderUptoRow.holds Try.pinned (OpenSpec.upto accountOrderSpec)

/-- 'tranchelaw34.AccountFinds', WHERE WHAT IT READS IS OF BULK AT MOST 1048576: true; the input reads as it did. -/
def accountFindsUptoRow : OpenClaim := { program := "ytklmgogppljolaa", sum := "54aebe7697441acbab2bbfc08c74ebd466c3e7cd94d92a9339d7928623c76272", func := "tranche/tranchelaw34.AccountFinds", spec := "accountFinds", inPlace := ["internal/bytealg.IndexByteString", "internal/bytealg.IndexString", "internal/abi.NoEscape", "internal/bytealg.MakeNoZero"], unfollowed := true, recurses := true, named := ["internal/bytealg.MaxLen"], apart := false, narrowed := true }
def AccountFindsUptoSaid : Prop := accountFindsUptoRow.holds Try.pinned (OpenSpec.upto accountFindsSpec)

/-- 'tranchelaw34.AccountCodes', WHERE WHAT IT READS IS OF BULK AT MOST 1048576: true; the input reads as it did. -/
def accountCodesUptoRow : OpenClaim := { program := "ytklmgogppljolaa", sum := "54aebe7697441acbab2bbfc08c74ebd466c3e7cd94d92a9339d7928623c76272", func := "tranche/tranchelaw34.AccountCodes", spec := "accountCodes", inPlace := ["internal/bytealg.IndexByteString", "internal/bytealg.IndexString", "internal/abi.NoEscape", "internal/bytealg.MakeNoZero"], unfollowed := true, recurses := true, named := ["internal/bytealg.MaxLen"], apart := false, narrowed := true }
def AccountCodesUptoSaid : Prop := accountCodesUptoRow.holds Try.pinned (OpenSpec.upto accountCodesSpec)

/-- 'tranchelaw34.AccountParts', WHERE WHAT IT READS IS OF BULK AT MOST 1048576: true; the input reads as it did. -/
def accountPartsUptoRow : OpenClaim := { program := "ytklmgogppljolaa", sum := "54aebe7697441acbab2bbfc08c74ebd466c3e7cd94d92a9339d7928623c76272", func := "tranche/tranchelaw34.AccountParts", spec := "accountParts", inPlace := ["internal/bytealg.IndexByteString", "internal/bytealg.IndexString", "internal/abi.NoEscape", "internal/bytealg.MakeNoZero", "internal/bytealg.abigen_runtime_cmpstring"], unfollowed := true, recurses := true, named := ["internal/bytealg.MaxLen"], apart := false, narrowed := true }
def AccountPartsUptoSaid : Prop := accountPartsUptoRow.holds Try.pinned (OpenSpec.upto accountPartsSpec)

end Rows
end Go.Proofs.Ytklmgogppljolaa
