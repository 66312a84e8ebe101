/-
  No cell of these rows narrows 'for every input' (looked for: loops, veiled, ifaces, maps, wideKeys, modest, calm, conditions, laid).
  DERIVED. THE GIVEN ROWS OF THIS SEAT. 6 by the template 'for every input the law returns true; each argument reads behind the call as it read before'; 0 by the template 'total and deterministic' (their statements: YtpjclnomaemokaaGreatTotals.lean).
  GIVEN WITH THE SEED: the statements are not yours to turn. If you find one false, say at which input.
  Laid BY PROGRAM, IN A SANDBOX (cutbox-rows.mjs): the forced cells as the released guide's own fill.sh prints them over the translation 34f3b559fb5d4a60… (all of the seat's roots in one cut). By AI agents, Wed Nov 11 2026. No macro, syntax, notation, axiom, sorry.
-/
import Derived.Test.YtpjclnomaemokaaGreatChecked
import GoSem.Claim
import GoSem.ClaimJoined
import GoSem.ClaimMapViews
import Derived.JoinedTies
import Derived.KernelRfl
namespace Go.Proofs.YtpjclnomaemokaaGreat
/- THE CELL 'sum', in the pinned program and in every row, IS THE sha256 OF THE DUMP (.gsa) THAT YtpjclnomaemokaaGreatProg.lean LOADS. Nothing in Lean hashes anything: it is a label: what it is worth is what the hold of that sum in a sandbox is worth. -/
noncomputable def Tryz.pinned : Pinned := { name := "ytpjclnomaemokaagreat", sum := "34f3b559fb5d4a6070aedea3e8316a9a50abeeed6e7a90b7114b5dc518471cfa", checked := Tryz.checked }
namespace Rows
def none {H : Type} : Left H := { results := [], args := [] }

/-- 'gazettelaw10.RaftcoreGrows': WHATEVER THE INPUT: true; the input reads as it did. -/
def raftcoreGrowsSpec : ChangeSpec := { name := "raftcoreGrows", fn := fun _ => fun
  | [d1, d2, d3] => { results := [.lit (.bool true)], args := [d1, d2, d3] }
  | _ => none }
def raftcoreGrowsRow : OpenClaim := { program := "ytpjclnomaemokaagreat", sum := "34f3b559fb5d4a6070aedea3e8316a9a50abeeed6e7a90b7114b5dc518471cfa", func := "gazette/gazettelaw10.RaftcoreGrows", spec := "raftcoreGrows", inPlace := ["slices.overlaps[int]"], unfollowed := true, recurses := true, apart := false }
def RaftcoreGrowsSaid : Prop := raftcoreGrowsRow.holds Tryz.pinned (OpenSpec.ofChange raftcoreGrowsSpec)

/-- ITS FALSE NEIGHBOUR: 'it returns false'. Refute it at one input. -/
def raftcoreGrowsWrong : ChangeSpec := { name := "raftcoreGrows", fn := fun _ => fun
  | [d1, d2, d3] => { results := [.lit (.bool false)], args := [d1, d2, d3] }
  | _ => none }
def RaftcoreGrowsWrongFalsely : Prop := raftcoreGrowsRow.holds Tryz.pinned (OpenSpec.ofChange raftcoreGrowsWrong)

/-- 'gazettelaw10.RaftcoreSafe': WHATEVER THE INPUT: true; the input reads as it did. -/
def raftcoreSafeSpec : ChangeSpec := { name := "raftcoreSafe", fn := fun _ => fun
  | [d1, d2, d3] => { results := [.lit (.bool true)], args := [d1, d2, d3] }
  | _ => none }
def raftcoreSafeRow : OpenClaim := { program := "ytpjclnomaemokaagreat", sum := "34f3b559fb5d4a6070aedea3e8316a9a50abeeed6e7a90b7114b5dc518471cfa", func := "gazette/gazettelaw10.RaftcoreSafe", spec := "raftcoreSafe", inPlace := ["slices.overlaps[int]"], unfollowed := true, recurses := true, apart := false }
def RaftcoreSafeSaid : Prop := raftcoreSafeRow.holds Tryz.pinned (OpenSpec.ofChange raftcoreSafeSpec)

/-- ITS FALSE NEIGHBOUR: 'it returns false'. Refute it at one input. -/
def raftcoreSafeWrong : ChangeSpec := { name := "raftcoreSafe", fn := fun _ => fun
  | [d1, d2, d3] => { results := [.lit (.bool false)], args := [d1, d2, d3] }
  | _ => none }
def RaftcoreSafeWrongFalsely : Prop := raftcoreSafeRow.holds Tryz.pinned (OpenSpec.ofChange raftcoreSafeWrong)

/-- 'gazettelaw10.RaftcoreCalm': WHATEVER THE INPUT: true; the input reads as it did. -/
def raftcoreCalmSpec : ChangeSpec := { name := "raftcoreCalm", fn := fun _ => fun
  | [d1, d2, d3] => { results := [.lit (.bool true)], args := [d1, d2, d3] }
  | _ => none }
def raftcoreCalmRow : OpenClaim := { program := "ytpjclnomaemokaagreat", sum := "34f3b559fb5d4a6070aedea3e8316a9a50abeeed6e7a90b7114b5dc518471cfa", func := "gazette/gazettelaw10.RaftcoreCalm", spec := "raftcoreCalm", inPlace := ["slices.overlaps[int]"], unfollowed := true, recurses := true, apart := false }
def RaftcoreCalmSaid : Prop := raftcoreCalmRow.holds Tryz.pinned (OpenSpec.ofChange raftcoreCalmSpec)

/-- ITS FALSE NEIGHBOUR: 'it returns false'. Refute it at one input. -/
def raftcoreCalmWrong : ChangeSpec := { name := "raftcoreCalm", fn := fun _ => fun
  | [d1, d2, d3] => { results := [.lit (.bool false)], args := [d1, d2, d3] }
  | _ => none }
def RaftcoreCalmWrongFalsely : Prop := raftcoreCalmRow.holds Tryz.pinned (OpenSpec.ofChange raftcoreCalmWrong)

/-- 'gazettelaw10.RaftcoreOnce': WHATEVER THE INPUT: true; the input reads as it did. -/
def raftcoreOnceSpec : ChangeSpec := { name := "raftcoreOnce", fn := fun _ => fun
  | [d1, d2, d3] => { results := [.lit (.bool true)], args := [d1, d2, d3] }
  | _ => none }
def raftcoreOnceRow : OpenClaim := { program := "ytpjclnomaemokaagreat", sum := "34f3b559fb5d4a6070aedea3e8316a9a50abeeed6e7a90b7114b5dc518471cfa", func := "gazette/gazettelaw10.RaftcoreOnce", spec := "raftcoreOnce", inPlace := ["slices.overlaps[int]"], unfollowed := true, recurses := true, apart := false }
def RaftcoreOnceSaid : Prop := raftcoreOnceRow.holds Tryz.pinned (OpenSpec.ofChange raftcoreOnceSpec)

/-- ITS FALSE NEIGHBOUR: 'it returns false'. Refute it at one input. -/
def raftcoreOnceWrong : ChangeSpec := { name := "raftcoreOnce", fn := fun _ => fun
  | [d1, d2, d3] => { results := [.lit (.bool false)], args := [d1, d2, d3] }
  | _ => none }
def RaftcoreOnceWrongFalsely : Prop := raftcoreOnceRow.holds Tryz.pinned (OpenSpec.ofChange raftcoreOnceWrong)

/-- 'gazettelaw10.RaftcoreChanges': WHATEVER THE INPUT: true; the input reads as it did. -/
def raftcoreChangesSpec : ChangeSpec := { name := "raftcoreChanges", fn := fun _ => fun
  | [d1, d2, d3] => { results := [.lit (.bool true)], args := [d1, d2, d3] }
  | _ => none }
def raftcoreChangesRow : OpenClaim := { program := "ytpjclnomaemokaagreat", sum := "34f3b559fb5d4a6070aedea3e8316a9a50abeeed6e7a90b7114b5dc518471cfa", func := "gazette/gazettelaw10.RaftcoreChanges", spec := "raftcoreChanges", inPlace := ["slices.overlaps[int]"], unfollowed := true, recurses := true, apart := false }
def RaftcoreChangesSaid : Prop := raftcoreChangesRow.holds Tryz.pinned (OpenSpec.ofChange raftcoreChangesSpec)

/-- ITS FALSE NEIGHBOUR: 'it returns false'. Refute it at one input. -/
def raftcoreChangesWrong : ChangeSpec := { name := "raftcoreChanges", fn := fun _ => fun
  | [d1, d2, d3] => { results := [.lit (.bool false)], args := [d1, d2, d3] }
  | _ => none }
def RaftcoreChangesWrongFalsely : Prop := raftcoreChangesRow.holds Tryz.pinned (OpenSpec.ofChange raftcoreChangesWrong)

/-- 'gazettelaw10.RaftcoreStatus': WHATEVER THE INPUT: true; the input reads as it did. -/
def raftcoreStatusSpec : ChangeSpec := { name := "raftcoreStatus", fn := fun _ => fun
  | [d1, d2, d3] => { results := [.lit (.bool true)], args := [d1, d2, d3] }
  | _ => none }
def raftcoreStatusRow : OpenClaim := { program := "ytpjclnomaemokaagreat", sum := "34f3b559fb5d4a6070aedea3e8316a9a50abeeed6e7a90b7114b5dc518471cfa", func := "gazette/gazettelaw10.RaftcoreStatus", spec := "raftcoreStatus", inPlace := ["slices.overlaps[int]"], unfollowed := true, recurses := true, apart := false }
def RaftcoreStatusSaid : Prop := raftcoreStatusRow.holds Tryz.pinned (OpenSpec.ofChange raftcoreStatusSpec)

/-- ITS FALSE NEIGHBOUR: 'it returns false'. Refute it at one input. -/
def raftcoreStatusWrong : ChangeSpec := { name := "raftcoreStatus", fn := fun _ => fun
  | [d1, d2, d3] => { results := [.lit (.bool false)], args := [d1, d2, d3] }
  | _ => none }
def RaftcoreStatusWrongFalsely : Prop := raftcoreStatusRow.holds Tryz.pinned (OpenSpec.ofChange raftcoreStatusWrong)

/- THE SECOND FORM. 'bulk': how many values and letters a reading holds, each counted each time it is reached (what is shared counts as often as it is met; a slice's spare places count too). A statement '..UptoSaid' is the law's where the arguments, and the package variables that the reading takes, are together of bulk at most 1048576: NARROWER than '..Said'. Prove '..Said' where nothing that the law and all that it calls make is longer than what came in: it says more and counts as full. Else prove '..UptoSaid'. A law counts once. -/
mutual
def uptoBulk {H : Type} : DataW H → Nat
  | .lit (.string bytes) => bytes.length + 1
  | .lit _ => 1
  | .nil => 1
  | .ptr d => uptoBulk d + 1
  | .slice elems spare => uptoBulkAll elems + uptoBulkAll spare + 1
  | .agg parts => uptoBulkAll parts + 1
  | .iface _ d => uptoBulk d + 1
  | .map entries => uptoBulkEntries entries + 1
  | .held _ => 1
def uptoBulkAll {H : Type} : List (DataW H) → Nat
  | [] => 0
  | d :: r => uptoBulk d + uptoBulkAll r
def uptoBulkEntries {H : Type} : List (Lit × DataW H) → Nat
  | [] => 0
  | x :: r => uptoBulkEntry x + uptoBulkEntries r
def uptoBulkEntry {H : Type} : Lit × DataW H → Nat
  | (.string bytes, d) => bytes.length + uptoBulk d + 1
  | (_, d) => uptoBulk d + 1
 end
def uptoSmall : (H : Type) → List (DataW H) → Bool := fun _ ds => decide (uptoBulkAll ds ≤ 1048576)
def OpenSpec.upto (s : _root_.Go.ChangeSpec) : _root_.Go.OpenSpec := { _root_.Go.OpenSpec.ofChange s with cond := some uptoSmall }

/-- 'gazettelaw10.RaftcoreGrows', WHERE WHAT IT READS IS OF BULK AT MOST 1048576: true; the input reads as it did. -/
def raftcoreGrowsUptoRow : OpenClaim := { program := "ytpjclnomaemokaagreat", sum := "34f3b559fb5d4a6070aedea3e8316a9a50abeeed6e7a90b7114b5dc518471cfa", func := "gazette/gazettelaw10.RaftcoreGrows", spec := "raftcoreGrows", inPlace := ["slices.overlaps[int]"], unfollowed := true, recurses := true, apart := false, narrowed := true }
def RaftcoreGrowsUptoSaid : Prop := raftcoreGrowsUptoRow.holds Tryz.pinned (OpenSpec.upto raftcoreGrowsSpec)

/-- 'gazettelaw10.RaftcoreSafe', WHERE WHAT IT READS IS OF BULK AT MOST 1048576: true; the input reads as it did. -/
def raftcoreSafeUptoRow : OpenClaim := { program := "ytpjclnomaemokaagreat", sum := "34f3b559fb5d4a6070aedea3e8316a9a50abeeed6e7a90b7114b5dc518471cfa", func := "gazette/gazettelaw10.RaftcoreSafe", spec := "raftcoreSafe", inPlace := ["slices.overlaps[int]"], unfollowed := true, recurses := true, apart := false, narrowed := true }
def RaftcoreSafeUptoSaid : Prop := raftcoreSafeUptoRow.holds Tryz.pinned (OpenSpec.upto raftcoreSafeSpec)

/-- 'gazettelaw10.RaftcoreCalm', WHERE WHAT IT READS IS OF BULK AT MOST 1048576: true; the input reads as it did. -/
def raftcoreCalmUptoRow : OpenClaim := { program := "ytpjclnomaemokaagreat", sum := "34f3b559fb5d4a6070aedea3e8316a9a50abeeed6e7a90b7114b5dc518471cfa", func := "gazette/gazettelaw10.RaftcoreCalm", spec := "raftcoreCalm", inPlace := ["slices.overlaps[int]"], unfollowed := true, recurses := true, apart := false, narrowed := true }
def RaftcoreCalmUptoSaid : Prop := raftcoreCalmUptoRow.holds Tryz.pinned (OpenSpec.upto raftcoreCalmSpec)

/-- 'gazettelaw10.RaftcoreOnce', WHERE WHAT IT READS IS OF BULK AT MOST 1048576: true; the input reads as it did. -/
def raftcoreOnceUptoRow : OpenClaim := { program := "ytpjclnomaemokaagreat", sum := "34f3b559fb5d4a6070aedea3e8316a9a50abeeed6e7a90b7114b5dc518471cfa", func := "gazette/gazettelaw10.RaftcoreOnce", spec := "raftcoreOnce", inPlace := ["slices.overlaps[int]"], unfollowed := true, recurses := true, apart := false, narrowed := true }
def RaftcoreOnceUptoSaid : Prop := raftcoreOnceUptoRow.holds Tryz.pinned (OpenSpec.upto raftcoreOnceSpec)

/-- 'gazettelaw10.RaftcoreChanges', WHERE WHAT IT READS IS OF BULK AT MOST 1048576: true; the input reads as it did. -/
def raftcoreChangesUptoRow : OpenClaim := { program := "ytpjclnomaemokaagreat", sum := "34f3b559fb5d4a6070aedea3e8316a9a50abeeed6e7a90b7114b5dc518471cfa", func := "gazette/gazettelaw10.RaftcoreChanges", spec := "raftcoreChanges", inPlace := ["slices.overlaps[int]"], unfollowed := true, recurses := true, apart := false, narrowed := true }
def RaftcoreChangesUptoSaid : Prop := raftcoreChangesUptoRow.holds Tryz.pinned (OpenSpec.upto raftcoreChangesSpec)

/-- 'gazettelaw10.RaftcoreStatus', WHERE WHAT IT READS IS OF BULK AT MOST 1048576: true; the input reads as it did. -/
def raftcoreStatusUptoRow : OpenClaim := { program := "ytpjclnomaemokaagreat", sum := "34f3b559fb5d4a6070aedea3e8316a9a50abeeed6e7a90b7114b5dc518471cfa", func := "gazette/gazettelaw10.RaftcoreStatus", spec := "raftcoreStatus", inPlace := ["slices.overlaps[int]"], unfollowed := true, recurses := true, apart := false, narrowed := true }
def RaftcoreStatusUptoSaid : Prop := raftcoreStatusUptoRow.holds Tryz.pinned (OpenSpec.upto raftcoreStatusSpec)

end Rows
end Go.Proofs.YtpjclnomaemokaaGreat
