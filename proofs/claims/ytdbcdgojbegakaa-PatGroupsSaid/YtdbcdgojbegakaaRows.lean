/-
  No cell of these rows narrows 'for every input' (looked for: loops, veiled, ifaces, maps, wideKeys, modest, calm, conditions, laid).
  DERIVED. THE GIVEN ROWS OF THIS SEAT. 4 by the template 'for every input the law returns true; each argument reads behind the call as it read before'; 0 by the template 'total and deterministic' (their statements: YtdbcdgojbegakaaTotals.lean).
  GIVEN WITH THE SEED: the statements are not yours to turn. If you find one false, say at which input.
  Laid BY PROGRAM, IN A SANDBOX (cutbox-rows.mjs): the forced cells as the released guide's own fill.sh prints them over the translation 4dad4bbd5e3b015d… (all of the seat's roots in one cut). By AI agents, Wed Nov 11 2026. No macro, syntax, notation, axiom, sorry.
-/
import Derived.Test.YtdbcdgojbegakaaChecked
import GoSem.Claim
import GoSem.ClaimJoined
import GoSem.ClaimMapViews
import Derived.JoinedTies
import Derived.KernelRfl
namespace Go.Proofs.Ytdbcdgojbegakaa
/- THE CELL 'sum', in the pinned program and in every row, IS THE sha256 OF THE DUMP (.gsa) THAT YtdbcdgojbegakaaProg.lean LOADS. Nothing in Lean hashes anything: it is a label: what it is worth is what the hold of that sum in a sandbox is worth. -/
noncomputable def Try.pinned : Pinned := { name := "ytdbcdgojbegakaa", sum := "4dad4bbd5e3b015d0f147dcc4973335ca36d436aabc7e46b2d4f2a68cf98df02", checked := Try.checked }
namespace Rows
def none {H : Type} : Left H := { results := [], args := [] }

/-- 'exerguelaw10.PatTells': WHATEVER THE INPUT: true; the input reads as it did. -/
def patTellsSpec : ChangeSpec := { name := "patTells", fn := fun _ => fun
  | [d1, d2] => { results := [.lit (.bool true)], args := [d1, d2] }
  | _ => none }
def patTellsRow : OpenClaim := { program := "ytdbcdgojbegakaa", sum := "4dad4bbd5e3b015d0f147dcc4973335ca36d436aabc7e46b2d4f2a68cf98df02", func := "exergue/exerguelaw10.PatTells", spec := "patTells", inPlace := ["internal/abi.NoEscape", "internal/bytealg.MakeNoZero"], unfollowed := true, recurses := true, apart := false }
def PatTellsSaid : Prop := patTellsRow.holds Try.pinned (OpenSpec.ofChange patTellsSpec)

/-- ITS FALSE NEIGHBOUR: 'it returns false'. Refute it at one input. -/
def patTellsWrong : ChangeSpec := { name := "patTells", fn := fun _ => fun
  | [d1, d2] => { results := [.lit (.bool false)], args := [d1, d2] }
  | _ => none }
def PatTellsWrongFalsely : Prop := patTellsRow.holds Try.pinned (OpenSpec.ofChange patTellsWrong)

/-- 'exerguelaw10.PatNumbers': WHATEVER THE INPUT: true; the input reads as it did. -/
def patNumbersSpec : ChangeSpec := { name := "patNumbers", fn := fun _ => fun
  | [d] => { results := [.lit (.bool true)], args := [d] }
  | _ => none }
def patNumbersRow : OpenClaim := { program := "ytdbcdgojbegakaa", sum := "4dad4bbd5e3b015d0f147dcc4973335ca36d436aabc7e46b2d4f2a68cf98df02", func := "exergue/exerguelaw10.PatNumbers", spec := "patNumbers", inPlace := ["internal/abi.NoEscape", "internal/bytealg.MakeNoZero"], unfollowed := true, recurses := true, apart := false }
def PatNumbersSaid : Prop := patNumbersRow.holds Try.pinned (OpenSpec.ofChange patNumbersSpec)

/-- ITS FALSE NEIGHBOUR: 'it returns false'. Refute it at one input. -/
def patNumbersWrong : ChangeSpec := { name := "patNumbers", fn := fun _ => fun
  | [d] => { results := [.lit (.bool false)], args := [d] }
  | _ => none }
def PatNumbersWrongFalsely : Prop := patNumbersRow.holds Try.pinned (OpenSpec.ofChange patNumbersWrong)

/-- 'exerguelaw10.PatGroups': WHATEVER THE INPUT: true; the input reads as it did. -/
def patGroupsSpec : ChangeSpec := { name := "patGroups", fn := fun _ => fun
  | [d] => { results := [.lit (.bool true)], args := [d] }
  | _ => none }
def patGroupsRow : OpenClaim := { program := "ytdbcdgojbegakaa", sum := "4dad4bbd5e3b015d0f147dcc4973335ca36d436aabc7e46b2d4f2a68cf98df02", func := "exergue/exerguelaw10.PatGroups", spec := "patGroups", inPlace := ["internal/abi.NoEscape", "internal/bytealg.MakeNoZero"], unfollowed := true, recurses := true, apart := false }
def PatGroupsSaid : Prop := patGroupsRow.holds Try.pinned (OpenSpec.ofChange patGroupsSpec)

/-- ITS FALSE NEIGHBOUR: 'it returns false'. Refute it at one input. -/
def patGroupsWrong : ChangeSpec := { name := "patGroups", fn := fun _ => fun
  | [d] => { results := [.lit (.bool false)], args := [d] }
  | _ => none }
def PatGroupsWrongFalsely : Prop := patGroupsRow.holds Try.pinned (OpenSpec.ofChange patGroupsWrong)

/-- 'exerguelaw10.PatSames': WHATEVER THE INPUT: true; the input reads as it did. -/
def patSamesSpec : ChangeSpec := { name := "patSames", fn := fun _ => fun
  | [d1, d2, d3] => { results := [.lit (.bool true)], args := [d1, d2, d3] }
  | _ => none }
def patSamesRow : OpenClaim := { program := "ytdbcdgojbegakaa", sum := "4dad4bbd5e3b015d0f147dcc4973335ca36d436aabc7e46b2d4f2a68cf98df02", func := "exergue/exerguelaw10.PatSames", spec := "patSames", inPlace := ["internal/abi.NoEscape", "internal/bytealg.MakeNoZero"], unfollowed := true, recurses := true, apart := false }
def PatSamesSaid : Prop := patSamesRow.holds Try.pinned (OpenSpec.ofChange patSamesSpec)

/-- ITS FALSE NEIGHBOUR: 'it returns false'. Refute it at one input. -/
def patSamesWrong : ChangeSpec := { name := "patSames", fn := fun _ => fun
  | [d1, d2, d3] => { results := [.lit (.bool false)], args := [d1, d2, d3] }
  | _ => none }
def PatSamesWrongFalsely : Prop := patSamesRow.holds Try.pinned (OpenSpec.ofChange patSamesWrong)

/- THE SECOND FORM. 'bulk': how many values and letters a reading holds, each counted each time it is reached (what is shared counts as often as it is met; a slice's spare places count too). A statement '..UptoSaid' is the law's where the arguments, and the package variables that the reading takes, are together of bulk at most 1048576: NARROWER than '..Said'. Prove '..Said' where nothing that the law and all that it calls make is longer than what came in: it says more and counts as full. Else prove '..UptoSaid'. A law counts once. -/
mutual
def uptoBulk {H : Type} : DataW H → Nat
  | .lit (.string bytes) => bytes.length + 1
  | .lit _ => 1
  | .nil => 1
  | .ptr d => uptoBulk d + 1
  | .slice elems spare => uptoBulkAll elems + uptoBulkAll spare + 1
  | .agg parts => uptoBulkAll parts + 1
  | .iface _ d => uptoBulk d + 1
  | .map entries => uptoBulkEntries entries + 1
  | .held _ => 1
def uptoBulkAll {H : Type} : List (DataW H) → Nat
  | [] => 0
  | d :: r => uptoBulk d + uptoBulkAll r
def uptoBulkEntries {H : Type} : List (Lit × DataW H) → Nat
  | [] => 0
  | x :: r => uptoBulkEntry x + uptoBulkEntries r
def uptoBulkEntry {H : Type} : Lit × DataW H → Nat
  | (.string bytes, d) => bytes.length + uptoBulk d + 1
  | (_, d) => uptoBulk d + 1
 end
def uptoSmall : (H : Type) → List (DataW H) → Bool := fun _ ds => decide (uptoBulkAll ds ≤ 1048576)
def OpenSpec.upto (s : _root_.Go.ChangeSpec) : _root_.Go.OpenSpec := { _root_.Go.OpenSpec.ofChange s with cond := some uptoSmall }

/-- 'exerguelaw10.PatTells', WHERE WHAT IT READS IS OF BULK AT MOST 1048576: true; the input reads as it did. -/
def patTellsUptoRow : OpenClaim := { program := "ytdbcdgojbegakaa", sum := "4dad4bbd5e3b015d0f147dcc4973335ca36d436aabc7e46b2d4f2a68cf98df02", func := "exergue/exerguelaw10.PatTells", spec := "patTells", inPlace := ["internal/abi.NoEscape", "internal/bytealg.MakeNoZero"], unfollowed := true, recurses := true, apart := false, narrowed := true }
def PatTellsUptoSaid : Prop := patTellsUptoRow.holds Try.pinned (OpenSpec.upto patTellsSpec)

/-- 'exerguelaw10.PatNumbers', WHERE WHAT IT READS IS OF BULK AT MOST 1048576: true; the input reads as it did. -/
def patNumbersUptoRow : OpenClaim := { program := "ytdbcdgojbegakaa", sum := "4dad4bbd5e3b015d0f147dcc4973335ca36d436aabc7e46b2d4f2a68cf98df02", func := "exergue/exerguelaw10.PatNumbers", spec := "patNumbers", inPlace := ["internal/abi.NoEscape", "internal/bytealg.MakeNoZero"], unfollowed := true, recurses := true, apart := false, narrowed := true }
def PatNumbersUptoSaid : Prop := patNumbersUptoRow.holds Try.pinned (OpenSpec.upto patNumbersSpec)

/-- 'exerguelaw10.PatGroups', WHERE WHAT IT READS IS OF BULK AT MOST 1048576: true; the input reads as it did. -/
def patGroupsUptoRow : OpenClaim := { program := "ytdbcdgojbegakaa", sum := "4dad4bbd5e3b015d0f147dcc4973335ca36d436aabc7e46b2d4f2a68cf98df02", func := "exergue/exerguelaw10.PatGroups", spec := "patGroups", inPlace := ["internal/abi.NoEscape", "internal/bytealg.MakeNoZero"], unfollowed := true, recurses := true, apart := false, narrowed := true }
def PatGroupsUptoSaid : Prop := patGroupsUptoRow.holds Try.pinned (OpenSpec.upto patGroupsSpec)

/-- 'exerguelaw10.PatSames', WHERE WHAT IT READS IS OF BULK AT MOST 1048576: true; the input reads as it did. -/
def patSamesUptoRow : OpenClaim := { program := "ytdbcdgojbegakaa", sum := "4dad4bbd5e3b015d0f147dcc4973335ca36d436aabc7e46b2d4f2a68cf98df02", func := "exergue/exerguelaw10.PatSames", spec := "patSames", inPlace := ["internal/abi.NoEscape", "internal/bytealg.MakeNoZero"], unfollowed := true, recurses := true, apart := false, narrowed := true }
def PatSamesUptoSaid : Prop := patSamesUptoRow.holds Try.pinned (OpenSpec.upto patSamesSpec)

end Rows
end Go.Proofs.Ytdbcdgojbegakaa
