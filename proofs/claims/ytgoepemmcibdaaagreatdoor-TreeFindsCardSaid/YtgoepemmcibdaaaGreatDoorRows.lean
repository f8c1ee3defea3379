/-
  NARROWER THAN 'FOR EVERY INPUT', by the rows' own cells (each row's printed sentence says how): TreeBuilds: laid · TreeMasks: laid · TreeTidy: laid · TreeFinds: laid · TreeKids: laid · TreeWhole: laid.
  DERIVED. THE GIVEN ROWS OF THIS SEAT. 6 by the template 'for every input the law returns true; each argument reads behind the call as it read before'; 0 by the template 'total and deterministic' (their statements: YtgoepemmcibdaaaGreatDoorTotals.lean).
  GIVEN WITH THE SEED: the statements are not yours to turn. If you find one false, say at which input.
  Laid BY PROGRAM, IN A SANDBOX (cutbox-rows.mjs): the forced cells as the released guide's own fill.sh prints them over the translation 5053d27f1c0ae1ee… (all of the seat's roots in one cut). By AI agents, Wed Nov 11 2026. No macro, syntax, notation, axiom, sorry.
-/
import Derived.Test.YtgoepemmcibdaaaGreatDoorChecked
import GoSem.PinnedTables
import GoSem.Claim
import GoSem.ClaimJoined
import GoSem.ClaimMapViews
import Derived.JoinedTies
import Derived.KernelRfl
namespace Go.Proofs.YtgoepemmcibdaaaGreatDoor
/- THE CELL 'sum', in the pinned program and in every row, IS THE sha256 OF THE DUMP (.gsa) THAT YtgoepemmcibdaaaGreatDoorProg.lean LOADS. Nothing in Lean hashes anything: it is a label: what it is worth is what the hold of that sum in a sandbox is worth. -/
noncomputable def Tryz.pinned : Pinned := { name := "ytgoepemmcibdaaagreatdoor", sum := "5053d27f1c0ae1eee86ee5eeb3c56ba2315fcbc3ee9cfa4cc8a03cc59557da63", checked := Tryz.checked }
namespace Rows
def none {H : Type} : Left H := { results := [], args := [] }

/- WHAT THE LISTED PACKAGE-LEVEL VARIABLES READ AS WHEN THE CALL BEGINS. Each datum BY PROGRAM (the guide's laid-datum.mjs) off the statement by which the dump's own 'gosem.cut.vars' lays the variable. In a bare row this is a premise. The card (YtgoepemmcibdaaaGreatDoorCards.lean) ties it to the program's text. -/
def laid_unicode_utf8_acceptRanges {H : Type} : DataW H := .agg [.agg [.lit (.int .u8 128), .lit (.int .u8 191)], .agg [.lit (.int .u8 160), .lit (.int .u8 191)], .agg [.lit (.int .u8 128), .lit (.int .u8 159)], .agg [.lit (.int .u8 144), .lit (.int .u8 191)], .agg [.lit (.int .u8 128), .lit (.int .u8 143)], .agg [.lit (.int .u8 0), .lit (.int .u8 0)], .agg [.lit (.int .u8 0), .lit (.int .u8 0)], .agg [.lit (.int .u8 0), .lit (.int .u8 0)], .agg [.lit (.int .u8 0), .lit (.int .u8 0)], .agg [.lit (.int .u8 0), .lit (.int .u8 0)], .agg [.lit (.int .u8 0), .lit (.int .u8 0)], .agg [.lit (.int .u8 0), .lit (.int .u8 0)], .agg [.lit (.int .u8 0), .lit (.int .u8 0)], .agg [.lit (.int .u8 0), .lit (.int .u8 0)], .agg [.lit (.int .u8 0), .lit (.int .u8 0)], .agg [.lit (.int .u8 0), .lit (.int .u8 0)]]
/-- One of Go's own tables, pinned by name: the form's constant. -/
def laid_unicode_utf8_first : DataW Unit := Go.Pinned.utf8First

/-- 'bowdlerlaw04.TreeBuilds': WHATEVER THE INPUT: true; the input reads as it did. -/
def treeBuildsSpec : ChangeSpec := { name := "treeBuilds", fn := fun _ => fun
  | [d1, d2, d3] => { results := [.lit (.bool true)], args := [d1, d2, d3] }
  | _ => none }
def treeBuildsRow : OpenClaim := { program := "ytgoepemmcibdaaagreatdoor", sum := "5053d27f1c0ae1eee86ee5eeb3c56ba2315fcbc3ee9cfa4cc8a03cc59557da63", func := "bowdler/bowdlerlaw04.TreeBuilds", spec := "treeBuilds", inPlace := ["internal/abi.NoEscape", "internal/bytealg.MakeNoZero", "internal/bytealg.abigen_runtime_cmpstring"], unfollowed := true, recurses := true, named := ["unicode/utf8.first", "unicode/utf8.acceptRanges"], apart := false, laid := [("unicode/utf8.acceptRanges", laid_unicode_utf8_acceptRanges), ("unicode/utf8.first", laid_unicode_utf8_first)] }
def TreeBuildsSaid : Prop := treeBuildsRow.holds Tryz.pinned (OpenSpec.ofChange treeBuildsSpec)

/-- ITS FALSE NEIGHBOUR: 'it returns false'. Refute it at one input. -/
def treeBuildsWrong : ChangeSpec := { name := "treeBuilds", fn := fun _ => fun
  | [d1, d2, d3] => { results := [.lit (.bool false)], args := [d1, d2, d3] }
  | _ => none }
def TreeBuildsWrongFalsely : Prop := treeBuildsRow.holds Tryz.pinned (OpenSpec.ofChange treeBuildsWrong)

/-- 'bowdlerlaw04.TreeMasks': WHATEVER THE INPUT: true; the input reads as it did. -/
def treeMasksSpec : ChangeSpec := { name := "treeMasks", fn := fun _ => fun
  | [d1, d2, d3] => { results := [.lit (.bool true)], args := [d1, d2, d3] }
  | _ => none }
def treeMasksRow : OpenClaim := { program := "ytgoepemmcibdaaagreatdoor", sum := "5053d27f1c0ae1eee86ee5eeb3c56ba2315fcbc3ee9cfa4cc8a03cc59557da63", func := "bowdler/bowdlerlaw04.TreeMasks", spec := "treeMasks", inPlace := ["internal/abi.NoEscape", "internal/bytealg.MakeNoZero", "internal/bytealg.abigen_runtime_cmpstring"], unfollowed := true, recurses := true, named := ["unicode/utf8.first", "unicode/utf8.acceptRanges"], apart := false, laid := [("unicode/utf8.acceptRanges", laid_unicode_utf8_acceptRanges), ("unicode/utf8.first", laid_unicode_utf8_first)] }
def TreeMasksSaid : Prop := treeMasksRow.holds Tryz.pinned (OpenSpec.ofChange treeMasksSpec)

/-- ITS FALSE NEIGHBOUR: 'it returns false'. Refute it at one input. -/
def treeMasksWrong : ChangeSpec := { name := "treeMasks", fn := fun _ => fun
  | [d1, d2, d3] => { results := [.lit (.bool false)], args := [d1, d2, d3] }
  | _ => none }
def TreeMasksWrongFalsely : Prop := treeMasksRow.holds Tryz.pinned (OpenSpec.ofChange treeMasksWrong)

/-- 'bowdlerlaw04.TreeTidy': WHATEVER THE INPUT: true; the input reads as it did. -/
def treeTidySpec : ChangeSpec := { name := "treeTidy", fn := fun _ => fun
  | [d] => { results := [.lit (.bool true)], args := [d] }
  | _ => none }
def treeTidyRow : OpenClaim := { program := "ytgoepemmcibdaaagreatdoor", sum := "5053d27f1c0ae1eee86ee5eeb3c56ba2315fcbc3ee9cfa4cc8a03cc59557da63", func := "bowdler/bowdlerlaw04.TreeTidy", spec := "treeTidy", inPlace := ["internal/abi.NoEscape", "internal/bytealg.MakeNoZero", "internal/bytealg.abigen_runtime_cmpstring"], unfollowed := true, recurses := true, named := ["unicode/utf8.first", "unicode/utf8.acceptRanges"], apart := false, laid := [("unicode/utf8.acceptRanges", laid_unicode_utf8_acceptRanges), ("unicode/utf8.first", laid_unicode_utf8_first)] }
def TreeTidySaid : Prop := treeTidyRow.holds Tryz.pinned (OpenSpec.ofChange treeTidySpec)

/-- ITS FALSE NEIGHBOUR: 'it returns false'. Refute it at one input. -/
def treeTidyWrong : ChangeSpec := { name := "treeTidy", fn := fun _ => fun
  | [d] => { results := [.lit (.bool false)], args := [d] }
  | _ => none }
def TreeTidyWrongFalsely : Prop := treeTidyRow.holds Tryz.pinned (OpenSpec.ofChange treeTidyWrong)

/-- 'bowdlerlaw04.TreeFinds': WHATEVER THE INPUT: true; the input reads as it did. -/
def treeFindsSpec : ChangeSpec := { name := "treeFinds", fn := fun _ => fun
  | [d1, d2, d3] => { results := [.lit (.bool true)], args := [d1, d2, d3] }
  | _ => none }
def treeFindsRow : OpenClaim := { program := "ytgoepemmcibdaaagreatdoor", sum := "5053d27f1c0ae1eee86ee5eeb3c56ba2315fcbc3ee9cfa4cc8a03cc59557da63", func := "bowdler/bowdlerlaw04.TreeFinds", spec := "treeFinds", inPlace := ["internal/abi.NoEscape", "internal/bytealg.MakeNoZero", "internal/bytealg.abigen_runtime_cmpstring"], unfollowed := true, recurses := true, named := ["unicode/utf8.first", "unicode/utf8.acceptRanges"], apart := false, laid := [("unicode/utf8.acceptRanges", laid_unicode_utf8_acceptRanges), ("unicode/utf8.first", laid_unicode_utf8_first)] }
def TreeFindsSaid : Prop := treeFindsRow.holds Tryz.pinned (OpenSpec.ofChange treeFindsSpec)

/-- ITS FALSE NEIGHBOUR: 'it returns false'. Refute it at one input. -/
def treeFindsWrong : ChangeSpec := { name := "treeFinds", fn := fun _ => fun
  | [d1, d2, d3] => { results := [.lit (.bool false)], args := [d1, d2, d3] }
  | _ => none }
def TreeFindsWrongFalsely : Prop := treeFindsRow.holds Tryz.pinned (OpenSpec.ofChange treeFindsWrong)

/-- 'bowdlerlaw04.TreeKids': WHATEVER THE INPUT: true; the input reads as it did. -/
def treeKidsSpec : ChangeSpec := { name := "treeKids", fn := fun _ => fun
  | [d] => { results := [.lit (.bool true)], args := [d] }
  | _ => none }
def treeKidsRow : OpenClaim := { program := "ytgoepemmcibdaaagreatdoor", sum := "5053d27f1c0ae1eee86ee5eeb3c56ba2315fcbc3ee9cfa4cc8a03cc59557da63", func := "bowdler/bowdlerlaw04.TreeKids", spec := "treeKids", inPlace := ["internal/abi.NoEscape", "internal/bytealg.MakeNoZero", "internal/bytealg.abigen_runtime_cmpstring"], unfollowed := true, recurses := true, named := ["unicode/utf8.first", "unicode/utf8.acceptRanges"], apart := false, laid := [("unicode/utf8.acceptRanges", laid_unicode_utf8_acceptRanges), ("unicode/utf8.first", laid_unicode_utf8_first)] }
def TreeKidsSaid : Prop := treeKidsRow.holds Tryz.pinned (OpenSpec.ofChange treeKidsSpec)

/-- ITS FALSE NEIGHBOUR: 'it returns false'. Refute it at one input. -/
def treeKidsWrong : ChangeSpec := { name := "treeKids", fn := fun _ => fun
  | [d] => { results := [.lit (.bool false)], args := [d] }
  | _ => none }
def TreeKidsWrongFalsely : Prop := treeKidsRow.holds Tryz.pinned (OpenSpec.ofChange treeKidsWrong)

/-- 'bowdlerlaw04.TreeWhole': WHATEVER THE INPUT: true; the input reads as it did. -/
def treeWholeSpec : ChangeSpec := { name := "treeWhole", fn := fun _ => fun
  | [d1, d2] => { results := [.lit (.bool true)], args := [d1, d2] }
  | _ => none }
def treeWholeRow : OpenClaim := { program := "ytgoepemmcibdaaagreatdoor", sum := "5053d27f1c0ae1eee86ee5eeb3c56ba2315fcbc3ee9cfa4cc8a03cc59557da63", func := "bowdler/bowdlerlaw04.TreeWhole", spec := "treeWhole", inPlace := ["internal/abi.NoEscape", "internal/bytealg.MakeNoZero", "internal/bytealg.abigen_runtime_cmpstring"], unfollowed := true, recurses := true, named := ["unicode/utf8.first", "unicode/utf8.acceptRanges"], apart := false, laid := [("unicode/utf8.acceptRanges", laid_unicode_utf8_acceptRanges), ("unicode/utf8.first", laid_unicode_utf8_first)] }
def TreeWholeSaid : Prop := treeWholeRow.holds Tryz.pinned (OpenSpec.ofChange treeWholeSpec)

/-- ITS FALSE NEIGHBOUR: 'it returns false'. Refute it at one input. -/
def treeWholeWrong : ChangeSpec := { name := "treeWhole", fn := fun _ => fun
  | [d1, d2] => { results := [.lit (.bool false)], args := [d1, d2] }
  | _ => none }
def TreeWholeWrongFalsely : Prop := treeWholeRow.holds Tryz.pinned (OpenSpec.ofChange treeWholeWrong)

/- THE SECOND FORM. 'bulk': how many values and letters a reading holds, each counted each time it is reached (what is shared counts as often as it is met; a slice's spare places count too). A statement '..UptoSaid' is the law's where the arguments, and the package variables that the reading takes, are together of bulk at most 1048576: NARROWER than '..Said'. Prove '..Said' where nothing that the law and all that it calls make is longer than what came in: it says more and counts as full. Else prove '..UptoSaid'. A law counts once. -/
mutual
def uptoBulk {H : Type} : DataW H → Nat
  | .lit (.string bytes) => bytes.length + 1
  | .lit _ => 1
  | .nil => 1
  | .ptr d => uptoBulk d + 1
  | .slice elems spare => uptoBulkAll elems + uptoBulkAll spare + 1
  | .agg parts => uptoBulkAll parts + 1
  | .iface _ d => uptoBulk d + 1
  | .map entries => uptoBulkEntries entries + 1
  | .held _ => 1
def uptoBulkAll {H : Type} : List (DataW H) → Nat
  | [] => 0
  | d :: r => uptoBulk d + uptoBulkAll r
def uptoBulkEntries {H : Type} : List (Lit × DataW H) → Nat
  | [] => 0
  | x :: r => uptoBulkEntry x + uptoBulkEntries r
def uptoBulkEntry {H : Type} : Lit × DataW H → Nat
  | (.string bytes, d) => bytes.length + uptoBulk d + 1
  | (_, d) => uptoBulk d + 1
 end
def uptoSmall : (H : Type) → List (DataW H) → Bool := fun _ ds => decide (uptoBulkAll ds ≤ 1048576)
def OpenSpec.upto (s : _root_.Go.ChangeSpec) : _root_.Go.OpenSpec := { _root_.Go.OpenSpec.ofChange s with cond := some uptoSmall }

/-- 'bowdlerlaw04.TreeBuilds', WHERE WHAT IT READS IS OF BULK AT MOST 1048576: true; the input reads as it did. -/
def treeBuildsUptoRow : OpenClaim := { program := "ytgoepemmcibdaaagreatdoor", sum := "5053d27f1c0ae1eee86ee5eeb3c56ba2315fcbc3ee9cfa4cc8a03cc59557da63", func := "bowdler/bowdlerlaw04.TreeBuilds", spec := "treeBuilds", inPlace := ["internal/abi.NoEscape", "internal/bytealg.MakeNoZero", "internal/bytealg.abigen_runtime_cmpstring"], unfollowed := true, recurses := true, named := ["unicode/utf8.first", "unicode/utf8.acceptRanges"], apart := false, laid := [("unicode/utf8.acceptRanges", laid_unicode_utf8_acceptRanges), ("unicode/utf8.first", laid_unicode_utf8_first)], narrowed := true }
def TreeBuildsUptoSaid : Prop := treeBuildsUptoRow.holds Tryz.pinned (OpenSpec.upto treeBuildsSpec)

/-- 'bowdlerlaw04.TreeMasks', WHERE WHAT IT READS IS OF BULK AT MOST 1048576: true; the input reads as it did. -/
def treeMasksUptoRow : OpenClaim := { program := "ytgoepemmcibdaaagreatdoor", sum := "5053d27f1c0ae1eee86ee5eeb3c56ba2315fcbc3ee9cfa4cc8a03cc59557da63", func := "bowdler/bowdlerlaw04.TreeMasks", spec := "treeMasks", inPlace := ["internal/abi.NoEscape", "internal/bytealg.MakeNoZero", "internal/bytealg.abigen_runtime_cmpstring"], unfollowed := true, recurses := true, named := ["unicode/utf8.first", "unicode/utf8.acceptRanges"], apart := false, laid := [("unicode/utf8.acceptRanges", laid_unicode_utf8_acceptRanges), ("unicode/utf8.first", laid_unicode_utf8_first)], narrowed := true }
def TreeMasksUptoSaid : Prop := treeMasksUptoRow.holds Tryz.pinned (OpenSpec.upto treeMasksSpec)

/-- 'bowdlerlaw04.TreeTidy', WHERE WHAT IT READS IS OF BULK AT MOST 1048576: true; the input reads as it did. -/
def treeTidyUptoRow : OpenClaim := { program := "ytgoepemmcibdaaagreatdoor", sum := "5053d27f1c0ae1eee86ee5eeb3c56ba2315fcbc3ee9cfa4cc8a03cc59557da63", func := "bowdler/bowdlerlaw04.TreeTidy", spec := "treeTidy", inPlace := ["internal/abi.NoEscape", "internal/bytealg.MakeNoZero", "internal/bytealg.abigen_runtime_cmpstring"], unfollowed := true, recurses := true, named := ["unicode/utf8.first", "unicode/utf8.acceptRanges"], apart := false, laid := [("unicode/utf8.acceptRanges", laid_unicode_utf8_acceptRanges), ("unicode/utf8.first", laid_unicode_utf8_first)], narrowed := true }
def TreeTidyUptoSaid : Prop := treeTidyUptoRow.holds Tryz.pinned (OpenSpec.upto treeTidySpec)

/-- 'bowdlerlaw04.TreeFinds', WHERE WHAT IT READS IS OF BULK AT MOST 1048576: true; the input reads as it did. -/
def treeFindsUptoRow : OpenClaim := { program := "ytgoepemmcibdaaagreatdoor", sum := "5053d27f1c0ae1eee86ee5eeb3c56ba2315fcbc3ee9cfa4cc8a03cc59557da63", func := "bowdler/bowdlerlaw04.TreeFinds", spec := "treeFinds", inPlace := ["internal/abi.NoEscape", "internal/bytealg.MakeNoZero", "internal/bytealg.abigen_runtime_cmpstring"], unfollowed := true, recurses := true, named := ["unicode/utf8.first", "unicode/utf8.acceptRanges"], apart := false, laid := [("unicode/utf8.acceptRanges", laid_unicode_utf8_acceptRanges), ("unicode/utf8.first", laid_unicode_utf8_first)], narrowed := true }
def TreeFindsUptoSaid : Prop := treeFindsUptoRow.holds Tryz.pinned (OpenSpec.upto treeFindsSpec)

/-- 'bowdlerlaw04.TreeKids', WHERE WHAT IT READS IS OF BULK AT MOST 1048576: true; the input reads as it did. -/
def treeKidsUptoRow : OpenClaim := { program := "ytgoepemmcibdaaagreatdoor", sum := "5053d27f1c0ae1eee86ee5eeb3c56ba2315fcbc3ee9cfa4cc8a03cc59557da63", func := "bowdler/bowdlerlaw04.TreeKids", spec := "treeKids", inPlace := ["internal/abi.NoEscape", "internal/bytealg.MakeNoZero", "internal/bytealg.abigen_runtime_cmpstring"], unfollowed := true, recurses := true, named := ["unicode/utf8.first", "unicode/utf8.acceptRanges"], apart := false, laid := [("unicode/utf8.acceptRanges", laid_unicode_utf8_acceptRanges), ("unicode/utf8.first", laid_unicode_utf8_first)], narrowed := true }
def TreeKidsUptoSaid : Prop := treeKidsUptoRow.holds Tryz.pinned (OpenSpec.upto treeKidsSpec)

/-- 'bowdlerlaw04.TreeWhole', WHERE WHAT IT READS IS OF BULK AT MOST 1048576: true; the input reads as it did. -/
def treeWholeUptoRow : OpenClaim := { program := "ytgoepemmcibdaaagreatdoor", sum := "5053d27f1c0ae1eee86ee5eeb3c56ba2315fcbc3ee9cfa4cc8a03cc59557da63", func := "bowdler/bowdlerlaw04.TreeWhole", spec := "treeWhole", inPlace := ["internal/abi.NoEscape", "internal/bytealg.MakeNoZero", "internal/bytealg.abigen_runtime_cmpstring"], unfollowed := true, recurses := true, named := ["unicode/utf8.first", "unicode/utf8.acceptRanges"], apart := false, laid := [("unicode/utf8.acceptRanges", laid_unicode_utf8_acceptRanges), ("unicode/utf8.first", laid_unicode_utf8_first)], narrowed := true }
def TreeWholeUptoSaid : Prop := treeWholeUptoRow.holds Tryz.pinned (OpenSpec.upto treeWholeSpec)

end Rows
end Go.Proofs.YtgoepemmcibdaaaGreatDoor
