/-
  NARROWER THAN 'FOR EVERY INPUT', by the rows' own cells (each row's printed sentence says how): BeatsOpens: laid · BeatsBack: laid · BeatsRead: laid.
  DERIVED. THE GIVEN ROWS OF THIS SEAT. 3 by the template 'for every input the law returns true; each argument reads behind the call as it read before'; 0 by the template 'total and deterministic' (their statements: YthaomecbklmmdaaDoorTotals.lean).
  GIVEN WITH THE SEED: the statements are not yours to turn. If you find one false, say at which input.
  Laid BY PROGRAM, IN A SANDBOX (cutbox-rows.mjs): the forced cells as the released guide's own fill.sh prints them over the translation 4b05e34241420b4e… (all of the seat's roots in one cut). By AI agents, Wed Nov 11 2026. No macro, syntax, notation, axiom, sorry.
-/
import Derived.Test.YthaomecbklmmdaaDoorChecked
import GoSem.Claim
import GoSem.ClaimJoined
import GoSem.ClaimMapViews
import Derived.JoinedTies
import Derived.KernelRfl
namespace Go.Proofs.YthaomecbklmmdaaDoor
/- THE CELL 'sum', in the pinned program and in every row, IS THE sha256 OF THE DUMP (.gsa) THAT YthaomecbklmmdaaDoorProg.lean LOADS. Nothing in Lean hashes anything: it is a label: what it is worth is what the hold of that sum in a sandbox is worth. -/
noncomputable def Tryd.pinned : Pinned := { name := "ythaomecbklmmdaadoor", sum := "4b05e34241420b4ef6e35911c655728f3b1161481fafbf2b40521dcbe920e167", checked := Tryd.checked }
namespace Rows
def none {H : Type} : Left H := { results := [], args := [] }

/- WHAT THE LISTED PACKAGE-LEVEL VARIABLES READ AS WHEN THE CALL BEGINS. Each datum BY PROGRAM (the guide's laid-datum.mjs) off the statement by which the dump's own 'gosem.cut.vars' lays the variable. In a bare row this is a premise. The card (YthaomecbklmmdaaDoorCards.lean) ties it to the program's text. -/
def laid_errors_errorType {H : Type} : DataW H := .iface "internal/reflectlite.rtype" (.agg [.ptr (.lit (.string [101, 114, 114, 111, 114]))])

/-- 'gazettelaw11.BeatsOpens': WHATEVER THE INPUT: true; the input reads as it did. -/
def beatsOpensSpec : ChangeSpec := { name := "beatsOpens", fn := fun _ => fun
  | [d] => { results := [.lit (.bool true)], args := [d] }
  | _ => none }
def beatsOpensRow : OpenClaim := { program := "ythaomecbklmmdaadoor", sum := "4b05e34241420b4ef6e35911c655728f3b1161481fafbf2b40521dcbe920e167", func := "gazette/gazettelaw11.BeatsOpens", spec := "beatsOpens", inPlace := ["internal/reflectlite.ValueOf", "(internal/reflectlite.Value).Type", "(internal/reflectlite.Value).IsNil", "internal/reflectlite.TypeOf", "(internal/reflectlite.Value).Elem", "(internal/reflectlite.Value).Set"], unfollowed := true, recurses := true, named := ["errors.errorType"], apart := false, laid := [("errors.errorType", laid_errors_errorType)] }
def BeatsOpensSaid : Prop := beatsOpensRow.holds Tryd.pinned (OpenSpec.ofChange beatsOpensSpec)

/-- ITS FALSE NEIGHBOUR: 'it returns false'. Refute it at one input. -/
def beatsOpensWrong : ChangeSpec := { name := "beatsOpens", fn := fun _ => fun
  | [d] => { results := [.lit (.bool false)], args := [d] }
  | _ => none }
def BeatsOpensWrongFalsely : Prop := beatsOpensRow.holds Tryd.pinned (OpenSpec.ofChange beatsOpensWrong)

/-- 'gazettelaw11.BeatsBack': WHATEVER THE INPUT: true; the input reads as it did. -/
def beatsBackSpec : ChangeSpec := { name := "beatsBack", fn := fun _ => fun
  | [d1, d2] => { results := [.lit (.bool true)], args := [d1, d2] }
  | _ => none }
def beatsBackRow : OpenClaim := { program := "ythaomecbklmmdaadoor", sum := "4b05e34241420b4ef6e35911c655728f3b1161481fafbf2b40521dcbe920e167", func := "gazette/gazettelaw11.BeatsBack", spec := "beatsBack", inPlace := ["internal/reflectlite.ValueOf", "(internal/reflectlite.Value).Type", "(internal/reflectlite.Value).IsNil", "internal/reflectlite.TypeOf", "(internal/reflectlite.Value).Elem", "(internal/reflectlite.Value).Set"], unfollowed := true, recurses := true, named := ["errors.errorType"], apart := false, laid := [("errors.errorType", laid_errors_errorType)] }
def BeatsBackSaid : Prop := beatsBackRow.holds Tryd.pinned (OpenSpec.ofChange beatsBackSpec)

/-- ITS FALSE NEIGHBOUR: 'it returns false'. Refute it at one input. -/
def beatsBackWrong : ChangeSpec := { name := "beatsBack", fn := fun _ => fun
  | [d1, d2] => { results := [.lit (.bool false)], args := [d1, d2] }
  | _ => none }
def BeatsBackWrongFalsely : Prop := beatsBackRow.holds Tryd.pinned (OpenSpec.ofChange beatsBackWrong)

/-- 'gazettelaw11.BeatsRead': WHATEVER THE INPUT: true; the input reads as it did. -/
def beatsReadSpec : ChangeSpec := { name := "beatsRead", fn := fun _ => fun
  | [d] => { results := [.lit (.bool true)], args := [d] }
  | _ => none }
def beatsReadRow : OpenClaim := { program := "ythaomecbklmmdaadoor", sum := "4b05e34241420b4ef6e35911c655728f3b1161481fafbf2b40521dcbe920e167", func := "gazette/gazettelaw11.BeatsRead", spec := "beatsRead", inPlace := ["internal/reflectlite.ValueOf", "(internal/reflectlite.Value).Type", "(internal/reflectlite.Value).IsNil", "internal/reflectlite.TypeOf", "(internal/reflectlite.Value).Elem", "(internal/reflectlite.Value).Set"], unfollowed := true, recurses := true, named := ["errors.errorType"], apart := false, laid := [("errors.errorType", laid_errors_errorType)] }
def BeatsReadSaid : Prop := beatsReadRow.holds Tryd.pinned (OpenSpec.ofChange beatsReadSpec)

/-- ITS FALSE NEIGHBOUR: 'it returns false'. Refute it at one input. -/
def beatsReadWrong : ChangeSpec := { name := "beatsRead", fn := fun _ => fun
  | [d] => { results := [.lit (.bool false)], args := [d] }
  | _ => none }
def BeatsReadWrongFalsely : Prop := beatsReadRow.holds Tryd.pinned (OpenSpec.ofChange beatsReadWrong)

/- THE SECOND FORM. 'bulk': how many values and letters a reading holds, each counted each time it is reached (what is shared counts as often as it is met; a slice's spare places count too). A statement '..UptoSaid' is the law's where the arguments, and the package variables that the reading takes, are together of bulk at most 1048576: NARROWER than '..Said'. Prove '..Said' where nothing that the law and all that it calls make is longer than what came in: it says more and counts as full. Else prove '..UptoSaid'. A law counts once. -/
mutual
def uptoBulk {H : Type} : DataW H → Nat
  | .lit (.string bytes) => bytes.length + 1
  | .lit _ => 1
  | .nil => 1
  | .ptr d => uptoBulk d + 1
  | .slice elems spare => uptoBulkAll elems + uptoBulkAll spare + 1
  | .agg parts => uptoBulkAll parts + 1
  | .iface _ d => uptoBulk d + 1
  | .map entries => uptoBulkEntries entries + 1
  | .held _ => 1
def uptoBulkAll {H : Type} : List (DataW H) → Nat
  | [] => 0
  | d :: r => uptoBulk d + uptoBulkAll r
def uptoBulkEntries {H : Type} : List (Lit × DataW H) → Nat
  | [] => 0
  | x :: r => uptoBulkEntry x + uptoBulkEntries r
def uptoBulkEntry {H : Type} : Lit × DataW H → Nat
  | (.string bytes, d) => bytes.length + uptoBulk d + 1
  | (_, d) => uptoBulk d + 1
 end
def uptoSmall : (H : Type) → List (DataW H) → Bool := fun _ ds => decide (uptoBulkAll ds ≤ 1048576)
def OpenSpec.upto (s : _root_.Go.ChangeSpec) : _root_.Go.OpenSpec := { _root_.Go.OpenSpec.ofChange s with cond := some uptoSmall }

/-- 'gazettelaw11.BeatsOpens', WHERE WHAT IT READS IS OF BULK AT MOST 1048576: true; the input reads as it did. -/
def beatsOpensUptoRow : OpenClaim := { program := "ythaomecbklmmdaadoor", sum := "4b05e34241420b4ef6e35911c655728f3b1161481fafbf2b40521dcbe920e167", func := "gazette/gazettelaw11.BeatsOpens", spec := "beatsOpens", inPlace := ["internal/reflectlite.ValueOf", "(internal/reflectlite.Value).Type", "(internal/reflectlite.Value).IsNil", "internal/reflectlite.TypeOf", "(internal/reflectlite.Value).Elem", "(internal/reflectlite.Value).Set"], unfollowed := true, recurses := true, named := ["errors.errorType"], apart := false, laid := [("errors.errorType", laid_errors_errorType)], narrowed := true }
def BeatsOpensUptoSaid : Prop := beatsOpensUptoRow.holds Tryd.pinned (OpenSpec.upto beatsOpensSpec)

/-- 'gazettelaw11.BeatsBack', WHERE WHAT IT READS IS OF BULK AT MOST 1048576: true; the input reads as it did. -/
def beatsBackUptoRow : OpenClaim := { program := "ythaomecbklmmdaadoor", sum := "4b05e34241420b4ef6e35911c655728f3b1161481fafbf2b40521dcbe920e167", func := "gazette/gazettelaw11.BeatsBack", spec := "beatsBack", inPlace := ["internal/reflectlite.ValueOf", "(internal/reflectlite.Value).Type", "(internal/reflectlite.Value).IsNil", "internal/reflectlite.TypeOf", "(internal/reflectlite.Value).Elem", "(internal/reflectlite.Value).Set"], unfollowed := true, recurses := true, named := ["errors.errorType"], apart := false, laid := [("errors.errorType", laid_errors_errorType)], narrowed := true }
def BeatsBackUptoSaid : Prop := beatsBackUptoRow.holds Tryd.pinned (OpenSpec.upto beatsBackSpec)

/-- 'gazettelaw11.BeatsRead', WHERE WHAT IT READS IS OF BULK AT MOST 1048576: true; the input reads as it did. -/
def beatsReadUptoRow : OpenClaim := { program := "ythaomecbklmmdaadoor", sum := "4b05e34241420b4ef6e35911c655728f3b1161481fafbf2b40521dcbe920e167", func := "gazette/gazettelaw11.BeatsRead", spec := "beatsRead", inPlace := ["internal/reflectlite.ValueOf", "(internal/reflectlite.Value).Type", "(internal/reflectlite.Value).IsNil", "internal/reflectlite.TypeOf", "(internal/reflectlite.Value).Elem", "(internal/reflectlite.Value).Set"], unfollowed := true, recurses := true, named := ["errors.errorType"], apart := false, laid := [("errors.errorType", laid_errors_errorType)], narrowed := true }
def BeatsReadUptoSaid : Prop := beatsReadUptoRow.holds Tryd.pinned (OpenSpec.upto beatsReadSpec)

end Rows
end Go.Proofs.YthaomecbklmmdaaDoor
