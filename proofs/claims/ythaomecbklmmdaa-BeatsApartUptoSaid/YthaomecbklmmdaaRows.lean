/-
  No cell of these rows narrows 'for every input' (looked for: loops, veiled, ifaces, maps, wideKeys, modest, calm, conditions, laid).
  DERIVED. THE GIVEN ROWS OF THIS SEAT. 2 by the template 'for every input the law returns true; each argument reads behind the call as it read before'; 0 by the template 'total and deterministic' (their statements: YthaomecbklmmdaaTotals.lean).
  GIVEN WITH THE SEED: the statements are not yours to turn. If you find one false, say at which input.
  Laid BY PROGRAM, IN A SANDBOX (cutbox-rows.mjs): the forced cells as the released guide's own fill.sh prints them over the translation 9f7f823a9ebb4e4d… (all of the seat's roots in one cut). By AI agents, Wed Nov 11 2026. No macro, syntax, notation, axiom, sorry.
-/
import Derived.Test.YthaomecbklmmdaaChecked
import GoSem.Claim
import GoSem.ClaimJoined
import GoSem.ClaimMapViews
import Derived.JoinedTies
import Derived.KernelRfl
namespace Go.Proofs.Ythaomecbklmmdaa
/- THE CELL 'sum', in the pinned program and in every row, IS THE sha256 OF THE DUMP (.gsa) THAT YthaomecbklmmdaaProg.lean LOADS. Nothing in Lean hashes anything: it is a label: what it is worth is what the hold of that sum in a sandbox is worth. -/
noncomputable def Try.pinned : Pinned := { name := "ythaomecbklmmdaa", sum := "9f7f823a9ebb4e4d02d741165362fffce85c3b49267eea2c486632e06f9d7029", checked := Try.checked }
namespace Rows
def none {H : Type} : Left H := { results := [], args := [] }

/-- 'gazettelaw11.BeatsPacks': WHATEVER THE INPUT: true; the input reads as it did. -/
def beatsPacksSpec : ChangeSpec := { name := "beatsPacks", fn := fun _ => fun
  | [d1, d2] => { results := [.lit (.bool true)], args := [d1, d2] }
  | _ => none }
def beatsPacksRow : OpenClaim := { program := "ythaomecbklmmdaa", sum := "9f7f823a9ebb4e4d02d741165362fffce85c3b49267eea2c486632e06f9d7029", func := "gazette/gazettelaw11.BeatsPacks", spec := "beatsPacks", apart := false }
def BeatsPacksSaid : Prop := beatsPacksRow.holds Try.pinned (OpenSpec.ofChange beatsPacksSpec)

/-- ITS FALSE NEIGHBOUR: 'it returns false'. Refute it at one input. -/
def beatsPacksWrong : ChangeSpec := { name := "beatsPacks", fn := fun _ => fun
  | [d1, d2] => { results := [.lit (.bool false)], args := [d1, d2] }
  | _ => none }
def BeatsPacksWrongFalsely : Prop := beatsPacksRow.holds Try.pinned (OpenSpec.ofChange beatsPacksWrong)

/-- 'gazettelaw11.BeatsApart': WHATEVER THE INPUT: true; the input reads as it did. -/
def beatsApartSpec : ChangeSpec := { name := "beatsApart", fn := fun _ => fun
  | [d1, d2, d3] => { results := [.lit (.bool true)], args := [d1, d2, d3] }
  | _ => none }
def beatsApartRow : OpenClaim := { program := "ythaomecbklmmdaa", sum := "9f7f823a9ebb4e4d02d741165362fffce85c3b49267eea2c486632e06f9d7029", func := "gazette/gazettelaw11.BeatsApart", spec := "beatsApart", apart := false }
def BeatsApartSaid : Prop := beatsApartRow.holds Try.pinned (OpenSpec.ofChange beatsApartSpec)

/-- ITS FALSE NEIGHBOUR: 'it returns false'. Refute it at one input. -/
def beatsApartWrong : ChangeSpec := { name := "beatsApart", fn := fun _ => fun
  | [d1, d2, d3] => { results := [.lit (.bool false)], args := [d1, d2, d3] }
  | _ => none }
def BeatsApartWrongFalsely : Prop := beatsApartRow.holds Try.pinned (OpenSpec.ofChange beatsApartWrong)

/- THE SECOND FORM. 'bulk': how many values and letters a reading holds, each counted each time it is reached (what is shared counts as often as it is met; a slice's spare places count too). A statement '..UptoSaid' is the law's where the arguments, and the package variables that the reading takes, are together of bulk at most 1048576: NARROWER than '..Said'. Prove '..Said' where nothing that the law and all that it calls make is longer than what came in: it says more and counts as full. Else prove '..UptoSaid'. A law counts once. -/
mutual
def uptoBulk {H : Type} : DataW H → Nat
  | .lit (.string bytes) => bytes.length + 1
  | .lit _ => 1
  | .nil => 1
  | .ptr d => uptoBulk d + 1
  | .slice elems spare => uptoBulkAll elems + uptoBulkAll spare + 1
  | .agg parts => uptoBulkAll parts + 1
  | .iface _ d => uptoBulk d + 1
  | .map entries => uptoBulkEntries entries + 1
  | .held _ => 1
def uptoBulkAll {H : Type} : List (DataW H) → Nat
  | [] => 0
  | d :: r => uptoBulk d + uptoBulkAll r
def uptoBulkEntries {H : Type} : List (Lit × DataW H) → Nat
  | [] => 0
  | x :: r => uptoBulkEntry x + uptoBulkEntries r
def uptoBulkEntry {H : Type} : Lit × DataW H → Nat
  | (.string bytes, d) => bytes.length + uptoBulk d + 1
  | (_, d) => uptoBulk d + 1
 end
def uptoSmall : (H : Type) → List (DataW H) → Bool := fun _ ds => decide (uptoBulkAll ds ≤ 1048576)
def OpenSpec.upto (s : _root_.Go.ChangeSpec) : _root_.Go.OpenSpec := { _root_.Go.OpenSpec.ofChange s with cond := some uptoSmall }

/-- 'gazettelaw11.BeatsPacks', WHERE WHAT IT READS IS OF BULK AT MOST 1048576: true; the input reads as it did. -/
def beatsPacksUptoRow : OpenClaim := { program := "ythaomecbklmmdaa", sum := "9f7f823a9ebb4e4d02d741165362fffce85c3b49267eea2c486632e06f9d7029", func := "gazette/gazettelaw11.BeatsPacks", spec := "beatsPacks", apart := false, narrowed := true }
def BeatsPacksUptoSaid : Prop := beatsPacksUptoRow.holds Try.pinned (OpenSpec.upto beatsPacksSpec)

/-- 'gazettelaw11.BeatsApart', WHERE WHAT IT READS IS OF BULK AT MOST 1048576: true; the input reads as it did. -/
def beatsApartUptoRow : OpenClaim := { program := "ythaomecbklmmdaa", sum := "9f7f823a9ebb4e4d02d741165362fffce85c3b49267eea2c486632e06f9d7029", func := "gazette/gazettelaw11.BeatsApart", spec := "beatsApart", apart := false, narrowed := true }
def BeatsApartUptoSaid : Prop := beatsApartUptoRow.holds Try.pinned (OpenSpec.upto beatsApartSpec)

end Rows
end Go.Proofs.Ythaomecbklmmdaa
