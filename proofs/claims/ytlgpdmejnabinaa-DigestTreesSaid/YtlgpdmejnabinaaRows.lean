/-
  No cell of these rows narrows 'for every input' (looked for: loops, veiled, ifaces, maps, wideKeys, modest, calm, conditions, laid).
  DERIVED. THE GIVEN ROWS OF THIS SEAT. 8 by the template 'for every input the law returns true; each argument reads behind the call as it read before'; 0 by the template 'total and deterministic' (their statements: YtlgpdmejnabinaaTotals.lean).
  GIVEN WITH THE SEED: the statements are not yours to turn. If you find one false, say at which input.
  Laid BY PROGRAM, IN A SANDBOX (cutbox-rows.mjs): the forced cells as the released guide's own fill.sh prints them over the translation 7c54dcd1a348c55c… (all of the seat's roots in one cut). By AI agents, Wed Nov 11 2026. No macro, syntax, notation, axiom, sorry.
-/
import Derived.Test.YtlgpdmejnabinaaChecked
import GoSem.Claim
import GoSem.ClaimJoined
import GoSem.ClaimMapViews
import Derived.JoinedTies
import Derived.KernelRfl
namespace Go.Proofs.Ytlgpdmejnabinaa
/- THE CELL 'sum', in the pinned program and in every row, IS THE sha256 OF THE DUMP (.gsa) THAT YtlgpdmejnabinaaProg.lean LOADS. Nothing in Lean hashes anything: it is a label: what it is worth is what the hold of that sum in a sandbox is worth. -/
noncomputable def Try.pinned : Pinned := { name := "ytlgpdmejnabinaa", sum := "7c54dcd1a348c55c8ef632b3b6c77e9453efaa2099b6c217028873f7f11005a3", checked := Try.checked }
namespace Rows
def none {H : Type} : Left H := { results := [], args := [] }

/-- 'tranchelaw56.DigestSizes': WHATEVER THE INPUT: true; the input reads as it did. -/
def digestSizesSpec : ChangeSpec := { name := "digestSizes", fn := fun _ => fun
  | [d] => { results := [.lit (.bool true)], args := [d] }
  | _ => none }
def digestSizesRow : OpenClaim := { program := "ytlgpdmejnabinaa", sum := "7c54dcd1a348c55c8ef632b3b6c77e9453efaa2099b6c217028873f7f11005a3", func := "tranche/tranchelaw56.DigestSizes", spec := "digestSizes", inPlace := ["internal/abi.NoEscape", "internal/bytealg.MakeNoZero"], unfollowed := true, recurses := true, apart := false }
def DigestSizesSaid : Prop := digestSizesRow.holds Try.pinned (OpenSpec.ofChange digestSizesSpec)

/-- ITS FALSE NEIGHBOUR: 'it returns false'. Refute it at one input. -/
def digestSizesWrong : ChangeSpec := { name := "digestSizes", fn := fun _ => fun
  | [d] => { results := [.lit (.bool false)], args := [d] }
  | _ => none }
def DigestSizesWrongFalsely : Prop := digestSizesRow.holds Try.pinned (OpenSpec.ofChange digestSizesWrong)

/-- 'tranchelaw56.DigestSums': WHATEVER THE INPUT: true; the input reads as it did. -/
def digestSumsSpec : ChangeSpec := { name := "digestSums", fn := fun _ => fun
  | [d1, d2] => { results := [.lit (.bool true)], args := [d1, d2] }
  | _ => none }
def digestSumsRow : OpenClaim := { program := "ytlgpdmejnabinaa", sum := "7c54dcd1a348c55c8ef632b3b6c77e9453efaa2099b6c217028873f7f11005a3", func := "tranche/tranchelaw56.DigestSums", spec := "digestSums", inPlace := ["internal/abi.NoEscape", "internal/bytealg.MakeNoZero"], unfollowed := true, recurses := true, apart := false }
def DigestSumsSaid : Prop := digestSumsRow.holds Try.pinned (OpenSpec.ofChange digestSumsSpec)

/-- ITS FALSE NEIGHBOUR: 'it returns false'. Refute it at one input. -/
def digestSumsWrong : ChangeSpec := { name := "digestSums", fn := fun _ => fun
  | [d1, d2] => { results := [.lit (.bool false)], args := [d1, d2] }
  | _ => none }
def DigestSumsWrongFalsely : Prop := digestSumsRow.holds Try.pinned (OpenSpec.ofChange digestSumsWrong)

/-- 'tranchelaw56.DigestRoots': WHATEVER THE INPUT: true; the input reads as it did. -/
def digestRootsSpec : ChangeSpec := { name := "digestRoots", fn := fun _ => fun
  | [d] => { results := [.lit (.bool true)], args := [d] }
  | _ => none }
def digestRootsRow : OpenClaim := { program := "ytlgpdmejnabinaa", sum := "7c54dcd1a348c55c8ef632b3b6c77e9453efaa2099b6c217028873f7f11005a3", func := "tranche/tranchelaw56.DigestRoots", spec := "digestRoots", inPlace := ["internal/abi.NoEscape", "internal/bytealg.MakeNoZero"], unfollowed := true, recurses := true, apart := false }
def DigestRootsSaid : Prop := digestRootsRow.holds Try.pinned (OpenSpec.ofChange digestRootsSpec)

/-- ITS FALSE NEIGHBOUR: 'it returns false'. Refute it at one input. -/
def digestRootsWrong : ChangeSpec := { name := "digestRoots", fn := fun _ => fun
  | [d] => { results := [.lit (.bool false)], args := [d] }
  | _ => none }
def DigestRootsWrongFalsely : Prop := digestRootsRow.holds Try.pinned (OpenSpec.ofChange digestRootsWrong)

/-- 'tranchelaw56.DigestChecks': WHATEVER THE INPUT: true; the input reads as it did. -/
def digestChecksSpec : ChangeSpec := { name := "digestChecks", fn := fun _ => fun
  | [d1, d2, d3, d4, d5] => { results := [.lit (.bool true)], args := [d1, d2, d3, d4, d5] }
  | _ => none }
def digestChecksRow : OpenClaim := { program := "ytlgpdmejnabinaa", sum := "7c54dcd1a348c55c8ef632b3b6c77e9453efaa2099b6c217028873f7f11005a3", func := "tranche/tranchelaw56.DigestChecks", spec := "digestChecks", inPlace := ["internal/abi.NoEscape", "internal/bytealg.MakeNoZero"], unfollowed := true, recurses := true, apart := false }
def DigestChecksSaid : Prop := digestChecksRow.holds Try.pinned (OpenSpec.ofChange digestChecksSpec)

/-- ITS FALSE NEIGHBOUR: 'it returns false'. Refute it at one input. -/
def digestChecksWrong : ChangeSpec := { name := "digestChecks", fn := fun _ => fun
  | [d1, d2, d3, d4, d5] => { results := [.lit (.bool false)], args := [d1, d2, d3, d4, d5] }
  | _ => none }
def DigestChecksWrongFalsely : Prop := digestChecksRow.holds Try.pinned (OpenSpec.ofChange digestChecksWrong)

/-- 'tranchelaw56.DigestChains': WHATEVER THE INPUT: true; the input reads as it did. -/
def digestChainsSpec : ChangeSpec := { name := "digestChains", fn := fun _ => fun
  | [d1, d2, d3] => { results := [.lit (.bool true)], args := [d1, d2, d3] }
  | _ => none }
def digestChainsRow : OpenClaim := { program := "ytlgpdmejnabinaa", sum := "7c54dcd1a348c55c8ef632b3b6c77e9453efaa2099b6c217028873f7f11005a3", func := "tranche/tranchelaw56.DigestChains", spec := "digestChains", inPlace := ["internal/abi.NoEscape", "internal/bytealg.MakeNoZero"], unfollowed := true, recurses := true, apart := false }
def DigestChainsSaid : Prop := digestChainsRow.holds Try.pinned (OpenSpec.ofChange digestChainsSpec)

/-- ITS FALSE NEIGHBOUR: 'it returns false'. Refute it at one input. -/
def digestChainsWrong : ChangeSpec := { name := "digestChains", fn := fun _ => fun
  | [d1, d2, d3] => { results := [.lit (.bool false)], args := [d1, d2, d3] }
  | _ => none }
def DigestChainsWrongFalsely : Prop := digestChainsRow.holds Try.pinned (OpenSpec.ofChange digestChainsWrong)

/-- 'tranchelaw56.DigestGrows': WHATEVER THE INPUT: true; the input reads as it did. -/
def digestGrowsSpec : ChangeSpec := { name := "digestGrows", fn := fun _ => fun
  | [d1, d2] => { results := [.lit (.bool true)], args := [d1, d2] }
  | _ => none }
def digestGrowsRow : OpenClaim := { program := "ytlgpdmejnabinaa", sum := "7c54dcd1a348c55c8ef632b3b6c77e9453efaa2099b6c217028873f7f11005a3", func := "tranche/tranchelaw56.DigestGrows", spec := "digestGrows", inPlace := ["internal/abi.NoEscape", "internal/bytealg.MakeNoZero"], unfollowed := true, recurses := true, apart := false }
def DigestGrowsSaid : Prop := digestGrowsRow.holds Try.pinned (OpenSpec.ofChange digestGrowsSpec)

/-- ITS FALSE NEIGHBOUR: 'it returns false'. Refute it at one input. -/
def digestGrowsWrong : ChangeSpec := { name := "digestGrows", fn := fun _ => fun
  | [d1, d2] => { results := [.lit (.bool false)], args := [d1, d2] }
  | _ => none }
def DigestGrowsWrongFalsely : Prop := digestGrowsRow.holds Try.pinned (OpenSpec.ofChange digestGrowsWrong)

/-- 'tranchelaw56.DigestPaths': WHATEVER THE INPUT: true; the input reads as it did. -/
def digestPathsSpec : ChangeSpec := { name := "digestPaths", fn := fun _ => fun
  | [d1, d2, d3] => { results := [.lit (.bool true)], args := [d1, d2, d3] }
  | _ => none }
def digestPathsRow : OpenClaim := { program := "ytlgpdmejnabinaa", sum := "7c54dcd1a348c55c8ef632b3b6c77e9453efaa2099b6c217028873f7f11005a3", func := "tranche/tranchelaw56.DigestPaths", spec := "digestPaths", inPlace := ["internal/abi.NoEscape", "internal/bytealg.MakeNoZero"], unfollowed := true, recurses := true, apart := false }
def DigestPathsSaid : Prop := digestPathsRow.holds Try.pinned (OpenSpec.ofChange digestPathsSpec)

/-- ITS FALSE NEIGHBOUR: 'it returns false'. Refute it at one input. -/
def digestPathsWrong : ChangeSpec := { name := "digestPaths", fn := fun _ => fun
  | [d1, d2, d3] => { results := [.lit (.bool false)], args := [d1, d2, d3] }
  | _ => none }
def DigestPathsWrongFalsely : Prop := digestPathsRow.holds Try.pinned (OpenSpec.ofChange digestPathsWrong)

/-- 'tranchelaw56.DigestTrees': WHATEVER THE INPUT: true; the input reads as it did. -/
def digestTreesSpec : ChangeSpec := { name := "digestTrees", fn := fun _ => fun
  | [d1, d2, d3] => { results := [.lit (.bool true)], args := [d1, d2, d3] }
  | _ => none }
def digestTreesRow : OpenClaim := { program := "ytlgpdmejnabinaa", sum := "7c54dcd1a348c55c8ef632b3b6c77e9453efaa2099b6c217028873f7f11005a3", func := "tranche/tranchelaw56.DigestTrees", spec := "digestTrees", inPlace := ["internal/abi.NoEscape", "internal/bytealg.MakeNoZero"], unfollowed := true, recurses := true, apart := false }
def DigestTreesSaid : Prop := digestTreesRow.holds Try.pinned (OpenSpec.ofChange digestTreesSpec)

/-- ITS FALSE NEIGHBOUR: 'it returns false'. Refute it at one input. -/
def digestTreesWrong : ChangeSpec := { name := "digestTrees", fn := fun _ => fun
  | [d1, d2, d3] => { results := [.lit (.bool false)], args := [d1, d2, d3] }
  | _ => none }
def DigestTreesWrongFalsely : Prop := digestTreesRow.holds Try.pinned (OpenSpec.ofChange digestTreesWrong)

/- THE SECOND FORM. 'bulk': how many values and letters a reading holds, each counted each time it is reached (what is shared counts as often as it is met; a slice's spare places count too). A statement '..UptoSaid' is the law's where the arguments, and the package variables that the reading takes, are together of bulk at most 1048576: NARROWER than '..Said'. Prove '..Said' where nothing that the law and all that it calls make is longer than what came in: it says more and counts as full. Else prove '..UptoSaid'. A law counts once. -/
mutual
def uptoBulk {H : Type} : DataW H → Nat
  | .lit (.string bytes) => bytes.length + 1
  | .lit _ => 1
  | .nil => 1
  | .ptr d => uptoBulk d + 1
  | .slice elems spare => uptoBulkAll elems + uptoBulkAll spare + 1
  | .agg parts => uptoBulkAll parts + 1
  | .iface _ d => uptoBulk d + 1
  | .map entries => uptoBulkEntries entries + 1
  | .held _ => 1
def uptoBulkAll {H : Type} : List (DataW H) → Nat
  | [] => 0
  | d :: r => uptoBulk d + uptoBulkAll r
def uptoBulkEntries {H : Type} : List (Lit × DataW H) → Nat
  | [] => 0
  | x :: r => uptoBulkEntry x + uptoBulkEntries r
def uptoBulkEntry {H : Type} : Lit × DataW H → Nat
  | (.string bytes, d) => bytes.length + uptoBulk d + 1
  | (_, d) => uptoBulk d + 1
 end
def uptoSmall : (H : Type) → List (DataW H) → Bool := fun _ ds => decide (uptoBulkAll ds ≤ 1048576)
def OpenSpec.upto (s : _root_.Go.ChangeSpec) : _root_.Go.OpenSpec := { _root_.Go.OpenSpec.ofChange s with cond := some uptoSmall }

/-- 'tranchelaw56.DigestSizes', WHERE WHAT IT READS IS OF BULK AT MOST 1048576: true; the input reads as it did. -/
def digestSizesUptoRow : OpenClaim := { program := "ytlgpdmejnabinaa", sum := "7c54dcd1a348c55c8ef632b3b6c77e9453efaa2099b6c217028873f7f11005a3", func := "tranche/tranchelaw56.DigestSizes", spec := "digestSizes", inPlace := ["internal/abi.NoEscape", "internal/bytealg.MakeNoZero"], unfollowed := true, recurses := true, apart := false, narrowed := true }
def DigestSizesUptoSaid : Prop := digestSizesUptoRow.holds Try.pinned (OpenSpec.upto digestSizesSpec)

/-- 'tranchelaw56.DigestSums', WHERE WHAT IT READS IS OF BULK AT MOST 1048576: true; the input reads as it did. -/
def digestSumsUptoRow : OpenClaim := { program := "ytlgpdmejnabinaa", sum := "7c54dcd1a348c55c8ef632b3b6c77e9453efaa2099b6c217028873f7f11005a3", func := "tranche/tranchelaw56.DigestSums", spec := "digestSums", inPlace := ["internal/abi.NoEscape", "internal/bytealg.MakeNoZero"], unfollowed := true, recurses := true, apart := false, narrowed := true }
def DigestSumsUptoSaid : Prop := digestSumsUptoRow.holds Try.pinned (OpenSpec.upto digestSumsSpec)

/-- 'tranchelaw56.DigestRoots', WHERE WHAT IT READS IS OF BULK AT MOST 1048576: true; the input reads as it did. -/
def digestRootsUptoRow : OpenClaim := { program := "ytlgpdmejnabinaa", sum := "7c54dcd1a348c55c8ef632b3b6c77e9453efaa2099b6c217028873f7f11005a3", func := "tranche/tranchelaw56.DigestRoots", spec := "digestRoots", inPlace := ["internal/abi.NoEscape", "internal/bytealg.MakeNoZero"], unfollowed := true, recurses := true, apart := false, narrowed := true }
def DigestRootsUptoSaid : Prop := digestRootsUptoRow.holds Try.pinned (OpenSpec.upto digestRootsSpec)

/-- 'tranchelaw56.DigestChecks', WHERE WHAT IT READS IS OF BULK AT MOST 1048576: true; the input reads as it did. -/
def digestChecksUptoRow : OpenClaim := { program := "ytlgpdmejnabinaa", sum := "7c54dcd1a348c55c8ef632b3b6c77e9453efaa2099b6c217028873f7f11005a3", func := "tranche/tranchelaw56.DigestChecks", spec := "digestChecks", inPlace := ["internal/abi.NoEscape", "internal/bytealg.MakeNoZero"], unfollowed := true, recurses := true, apart := false, narrowed := true }
def DigestChecksUptoSaid : Prop := digestChecksUptoRow.holds Try.pinned (OpenSpec.upto digestChecksSpec)

/-- 'tranchelaw56.DigestChains', WHERE WHAT IT READS IS OF BULK AT MOST 1048576: true; the input reads as it did. -/
def digestChainsUptoRow : OpenClaim := { program := "ytlgpdmejnabinaa", sum := "7c54dcd1a348c55c8ef632b3b6c77e9453efaa2099b6c217028873f7f11005a3", func := "tranche/tranchelaw56.DigestChains", spec := "digestChains", inPlace := ["internal/abi.NoEscape", "internal/bytealg.MakeNoZero"], unfollowed := true, recurses := true, apart := false, narrowed := true }
def DigestChainsUptoSaid : Prop := digestChainsUptoRow.holds Try.pinned (OpenSpec.upto digestChainsSpec)

/-- 'tranchelaw56.DigestGrows', WHERE WHAT IT READS IS OF BULK AT MOST 1048576: true; the input reads as it did. -/
def digestGrowsUptoRow : OpenClaim := { program := "ytlgpdmejnabinaa", sum := "7c54dcd1a348c55c8ef632b3b6c77e9453efaa2099b6c217028873f7f11005a3", func := "tranche/tranchelaw56.DigestGrows", spec := "digestGrows", inPlace := ["internal/abi.NoEscape", "internal/bytealg.MakeNoZero"], unfollowed := true, recurses := true, apart := false, narrowed := true }
def DigestGrowsUptoSaid : Prop := digestGrowsUptoRow.holds Try.pinned (OpenSpec.upto digestGrowsSpec)

/-- 'tranchelaw56.DigestPaths', WHERE WHAT IT READS IS OF BULK AT MOST 1048576: true; the input reads as it did. -/
def digestPathsUptoRow : OpenClaim := { program := "ytlgpdmejnabinaa", sum := "7c54dcd1a348c55c8ef632b3b6c77e9453efaa2099b6c217028873f7f11005a3", func := "tranche/tranchelaw56.DigestPaths", spec := "digestPaths", inPlace := ["internal/abi.NoEscape", "internal/bytealg.MakeNoZero"], unfollowed := true, recurses := true, apart := false, narrowed := true }
def DigestPathsUptoSaid : Prop := digestPathsUptoRow.holds Try.pinned (OpenSpec.upto digestPathsSpec)

/-- 'tranchelaw56.DigestTrees', WHERE WHAT IT READS IS OF BULK AT MOST 1048576: true; the input reads as it did. -/
def digestTreesUptoRow : OpenClaim := { program := "ytlgpdmejnabinaa", sum := "7c54dcd1a348c55c8ef632b3b6c77e9453efaa2099b6c217028873f7f11005a3", func := "tranche/tranchelaw56.DigestTrees", spec := "digestTrees", inPlace := ["internal/abi.NoEscape", "internal/bytealg.MakeNoZero"], unfollowed := true, recurses := true, apart := false, narrowed := true }
def DigestTreesUptoSaid : Prop := digestTreesUptoRow.holds Try.pinned (OpenSpec.upto digestTreesSpec)

end Rows
end Go.Proofs.Ytlgpdmejnabinaa
