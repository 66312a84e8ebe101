/-
  No cell of these rows narrows 'for every input' (looked for: loops, veiled, ifaces, maps, wideKeys, modest, calm, conditions, laid).
  DERIVED. THE GIVEN ROWS OF THIS SEAT. 5 by the template 'for every input the law returns true; each argument reads behind the call as it read before'; 0 by the template 'total and deterministic' (their statements: YthafkinbocdjlaaTotals.lean).
  GIVEN WITH THE SEED: the statements are not yours to turn. If you find one false, say at which input.
  Laid BY PROGRAM, IN A SANDBOX (cutbox-rows.mjs): the forced cells as the released guide's own fill.sh prints them over the translation db0d2ef5a105fc00… (all of the seat's roots in one cut). By AI agents, Wed Nov 11 2026. No macro, syntax, notation, axiom, sorry.
-/
import Derived.Test.YthafkinbocdjlaaChecked
import GoSem.Claim
import GoSem.ClaimJoined
import GoSem.ClaimMapViews
import Derived.JoinedTies
import Derived.KernelRfl
namespace Go.Proofs.Ythafkinbocdjlaa
/- THE CELL 'sum', in the pinned program and in every row, IS THE sha256 OF THE DUMP (.gsa) THAT YthafkinbocdjlaaProg.lean LOADS. Nothing in Lean hashes anything: it is a label: what it is worth is what the hold of that sum in a sandbox is worth. -/
noncomputable def Try.pinned : Pinned := { name := "ythafkinbocdjlaa", sum := "db0d2ef5a105fc00d57545e78aa08f6dc0389476839432272d9ba683993508d2", checked := Try.checked }
namespace Rows
def none {H : Type} : Left H := { results := [], args := [] }

/-- 'gazettelaw08.RaftconfApplies': WHATEVER THE INPUT: true; the input reads as it did. -/
def raftconfAppliesSpec : ChangeSpec := { name := "raftconfApplies", fn := fun _ => fun
  | [d1, d2] => { results := [.lit (.bool true)], args := [d1, d2] }
  | _ => none }
def raftconfAppliesRow : OpenClaim := { program := "ythafkinbocdjlaa", sum := "db0d2ef5a105fc00d57545e78aa08f6dc0389476839432272d9ba683993508d2", func := "gazette/gazettelaw08.RaftconfApplies", spec := "raftconfApplies", inPlace := ["slices.overlaps[int]"], unfollowed := true, recurses := true, apart := false }
def RaftconfAppliesSaid : Prop := raftconfAppliesRow.holds Try.pinned (OpenSpec.ofChange raftconfAppliesSpec)

/-- ITS FALSE NEIGHBOUR: 'it returns false'. Refute it at one input. -/
def raftconfAppliesWrong : ChangeSpec := { name := "raftconfApplies", fn := fun _ => fun
  | [d1, d2] => { results := [.lit (.bool false)], args := [d1, d2] }
  | _ => none }
def RaftconfAppliesWrongFalsely : Prop := raftconfAppliesRow.holds Try.pinned (OpenSpec.ofChange raftconfAppliesWrong)

/-- 'gazettelaw08.RaftconfPaths': WHATEVER THE INPUT: true; the input reads as it did. -/
def raftconfPathsSpec : ChangeSpec := { name := "raftconfPaths", fn := fun _ => fun
  | [d1, d2] => { results := [.lit (.bool true)], args := [d1, d2] }
  | _ => none }
def raftconfPathsRow : OpenClaim := { program := "ythafkinbocdjlaa", sum := "db0d2ef5a105fc00d57545e78aa08f6dc0389476839432272d9ba683993508d2", func := "gazette/gazettelaw08.RaftconfPaths", spec := "raftconfPaths", inPlace := ["slices.overlaps[int]"], unfollowed := true, recurses := true, apart := false }
def RaftconfPathsSaid : Prop := raftconfPathsRow.holds Try.pinned (OpenSpec.ofChange raftconfPathsSpec)

/-- ITS FALSE NEIGHBOUR: 'it returns false'. Refute it at one input. -/
def raftconfPathsWrong : ChangeSpec := { name := "raftconfPaths", fn := fun _ => fun
  | [d1, d2] => { results := [.lit (.bool false)], args := [d1, d2] }
  | _ => none }
def RaftconfPathsWrongFalsely : Prop := raftconfPathsRow.holds Try.pinned (OpenSpec.ofChange raftconfPathsWrong)

/-- 'gazettelaw08.RaftconfSteps': WHATEVER THE INPUT: true; the input reads as it did. -/
def raftconfStepsSpec : ChangeSpec := { name := "raftconfSteps", fn := fun _ => fun
  | [d1, d2] => { results := [.lit (.bool true)], args := [d1, d2] }
  | _ => none }
def raftconfStepsRow : OpenClaim := { program := "ythafkinbocdjlaa", sum := "db0d2ef5a105fc00d57545e78aa08f6dc0389476839432272d9ba683993508d2", func := "gazette/gazettelaw08.RaftconfSteps", spec := "raftconfSteps", inPlace := ["slices.overlaps[int]"], unfollowed := true, recurses := true, apart := false }
def RaftconfStepsSaid : Prop := raftconfStepsRow.holds Try.pinned (OpenSpec.ofChange raftconfStepsSpec)

/-- ITS FALSE NEIGHBOUR: 'it returns false'. Refute it at one input. -/
def raftconfStepsWrong : ChangeSpec := { name := "raftconfSteps", fn := fun _ => fun
  | [d1, d2] => { results := [.lit (.bool false)], args := [d1, d2] }
  | _ => none }
def RaftconfStepsWrongFalsely : Prop := raftconfStepsRow.holds Try.pinned (OpenSpec.ofChange raftconfStepsWrong)

/-- 'gazettelaw08.RaftconfTells': WHATEVER THE INPUT: true; the input reads as it did. -/
def raftconfTellsSpec : ChangeSpec := { name := "raftconfTells", fn := fun _ => fun
  | [d1, d2] => { results := [.lit (.bool true)], args := [d1, d2] }
  | _ => none }
def raftconfTellsRow : OpenClaim := { program := "ythafkinbocdjlaa", sum := "db0d2ef5a105fc00d57545e78aa08f6dc0389476839432272d9ba683993508d2", func := "gazette/gazettelaw08.RaftconfTells", spec := "raftconfTells", inPlace := ["slices.overlaps[int]"], unfollowed := true, recurses := true, apart := false }
def RaftconfTellsSaid : Prop := raftconfTellsRow.holds Try.pinned (OpenSpec.ofChange raftconfTellsSpec)

/-- ITS FALSE NEIGHBOUR: 'it returns false'. Refute it at one input. -/
def raftconfTellsWrong : ChangeSpec := { name := "raftconfTells", fn := fun _ => fun
  | [d1, d2] => { results := [.lit (.bool false)], args := [d1, d2] }
  | _ => none }
def RaftconfTellsWrongFalsely : Prop := raftconfTellsRow.holds Try.pinned (OpenSpec.ofChange raftconfTellsWrong)

/-- 'gazettelaw08.RaftconfMeets': WHATEVER THE INPUT: true; the input reads as it did. -/
def raftconfMeetsSpec : ChangeSpec := { name := "raftconfMeets", fn := fun _ => fun
  | [d1, d2, d3, d4] => { results := [.lit (.bool true)], args := [d1, d2, d3, d4] }
  | _ => none }
def raftconfMeetsRow : OpenClaim := { program := "ythafkinbocdjlaa", sum := "db0d2ef5a105fc00d57545e78aa08f6dc0389476839432272d9ba683993508d2", func := "gazette/gazettelaw08.RaftconfMeets", spec := "raftconfMeets", inPlace := ["slices.overlaps[int]"], unfollowed := true, recurses := true, apart := false }
def RaftconfMeetsSaid : Prop := raftconfMeetsRow.holds Try.pinned (OpenSpec.ofChange raftconfMeetsSpec)

/-- ITS FALSE NEIGHBOUR: 'it returns false'. Refute it at one input. -/
def raftconfMeetsWrong : ChangeSpec := { name := "raftconfMeets", fn := fun _ => fun
  | [d1, d2, d3, d4] => { results := [.lit (.bool false)], args := [d1, d2, d3, d4] }
  | _ => none }
def RaftconfMeetsWrongFalsely : Prop := raftconfMeetsRow.holds Try.pinned (OpenSpec.ofChange raftconfMeetsWrong)

/- THE SECOND FORM. 'bulk': how many values and letters a reading holds, each counted each time it is reached (what is shared counts as often as it is met; a slice's spare places count too). A statement '..UptoSaid' is the law's where the arguments, and the package variables that the reading takes, are together of bulk at most 1048576: NARROWER than '..Said'. Prove '..Said' where nothing that the law and all that it calls make is longer than what came in: it says more and counts as full. Else prove '..UptoSaid'. A law counts once. -/
mutual
def uptoBulk {H : Type} : DataW H → Nat
  | .lit (.string bytes) => bytes.length + 1
  | .lit _ => 1
  | .nil => 1
  | .ptr d => uptoBulk d + 1
  | .slice elems spare => uptoBulkAll elems + uptoBulkAll spare + 1
  | .agg parts => uptoBulkAll parts + 1
  | .iface _ d => uptoBulk d + 1
  | .map entries => uptoBulkEntries entries + 1
  | .held _ => 1
def uptoBulkAll {H : Type} : List (DataW H) → Nat
  | [] => 0
  | d :: r => uptoBulk d + uptoBulkAll r
def uptoBulkEntries {H : Type} : List (Lit × DataW H) → Nat
  | [] => 0
  | x :: r => uptoBulkEntry x + uptoBulkEntries r
def uptoBulkEntry {H : Type} : Lit × DataW H → Nat
  | (.string bytes, d) => bytes.length + uptoBulk d + 1
  | (_, d) => uptoBulk d + 1
 end
def uptoSmall : (H : Type) → List (DataW H) → Bool := fun _ ds => decide (uptoBulkAll ds ≤ 1048576)
def OpenSpec.upto (s : _root_.Go.ChangeSpec) : _root_.Go.OpenSpec := { _root_.Go.OpenSpec.ofChange s with cond := some uptoSmall }

/-- 'gazettelaw08.RaftconfApplies', WHERE WHAT IT READS IS OF BULK AT MOST 1048576: true; the input reads as it did. -/
def raftconfAppliesUptoRow : OpenClaim := { program := "ythafkinbocdjlaa", sum := "db0d2ef5a105fc00d57545e78aa08f6dc0389476839432272d9ba683993508d2", func := "gazette/gazettelaw08.RaftconfApplies", spec := "raftconfApplies", inPlace := ["slices.overlaps[int]"], unfollowed := true, recurses := true, apart := false, narrowed := true }
def RaftconfAppliesUptoSaid : Prop := raftconfAppliesUptoRow.holds Try.pinned (OpenSpec.upto raftconfAppliesSpec)

/-- 'gazettelaw08.RaftconfPaths', WHERE WHAT IT READS IS OF BULK AT MOST 1048576: true; the input reads as it did. -/
def raftconfPathsUptoRow : OpenClaim := { program := "ythafkinbocdjlaa", sum := "db0d2ef5a105fc00d57545e78aa08f6dc0389476839432272d9ba683993508d2", func := "gazette/gazettelaw08.RaftconfPaths", spec := "raftconfPaths", inPlace := ["slices.overlaps[int]"], unfollowed := true, recurses := true, apart := false, narrowed := true }
def RaftconfPathsUptoSaid : Prop := raftconfPathsUptoRow.holds Try.pinned (OpenSpec.upto raftconfPathsSpec)

/-- 'gazettelaw08.RaftconfSteps', WHERE WHAT IT READS IS OF BULK AT MOST 1048576: true; the input reads as it did. -/
def raftconfStepsUptoRow : OpenClaim := { program := "ythafkinbocdjlaa", sum := "db0d2ef5a105fc00d57545e78aa08f6dc0389476839432272d9ba683993508d2", func := "gazette/gazettelaw08.RaftconfSteps", spec := "raftconfSteps", inPlace := ["slices.overlaps[int]"], unfollowed := true, recurses := true, apart := false, narrowed := true }
def RaftconfStepsUptoSaid : Prop := raftconfStepsUptoRow.holds Try.pinned (OpenSpec.upto raftconfStepsSpec)

/-- 'gazettelaw08.RaftconfTells', WHERE WHAT IT READS IS OF BULK AT MOST 1048576: true; the input reads as it did. -/
def raftconfTellsUptoRow : OpenClaim := { program := "ythafkinbocdjlaa", sum := "db0d2ef5a105fc00d57545e78aa08f6dc0389476839432272d9ba683993508d2", func := "gazette/gazettelaw08.RaftconfTells", spec := "raftconfTells", inPlace := ["slices.overlaps[int]"], unfollowed := true, recurses := true, apart := false, narrowed := true }
def RaftconfTellsUptoSaid : Prop := raftconfTellsUptoRow.holds Try.pinned (OpenSpec.upto raftconfTellsSpec)

/-- 'gazettelaw08.RaftconfMeets', WHERE WHAT IT READS IS OF BULK AT MOST 1048576: true; the input reads as it did. -/
def raftconfMeetsUptoRow : OpenClaim := { program := "ythafkinbocdjlaa", sum := "db0d2ef5a105fc00d57545e78aa08f6dc0389476839432272d9ba683993508d2", func := "gazette/gazettelaw08.RaftconfMeets", spec := "raftconfMeets", inPlace := ["slices.overlaps[int]"], unfollowed := true, recurses := true, apart := false, narrowed := true }
def RaftconfMeetsUptoSaid : Prop := raftconfMeetsUptoRow.holds Try.pinned (OpenSpec.upto raftconfMeetsSpec)

end Rows
end Go.Proofs.Ythafkinbocdjlaa
